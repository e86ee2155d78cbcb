/- A part of the proof: no condition. -/
import Derived.Calls
import Derived.Below
import Derived.Laws.World
import Derived.Laws.Cells
import Derived.Laws.Entries
import Derived.Laws.IdiomCopy
import Derived.Laws.Strings
import Derived.Laws.Slices
import Derived.Laws.MakeOwn
import Derived.Laws.BytesArg
set_option linter.unusedSectionVars false
set_option linter.unusedSimpArgs false
section
namespace Go
theorem bR{p:Prop}[Decidable p](h:¬p):decide p=false:=decide_eq_false h
theorem dH{p:Prop}[Decidable p](h:p):decide p=true:=decide_eq_true h
theorem eA{α:Type _}{i:Nat}{a:α}{l:List α}:l[i]? =some a↔∃h:i<l.length,l[i]=a:=List.getElem?_eq_some_iff
theorem eo{α:Type _}{β:Type _}{dm:List α}(f:α→β):(dm.map f).length=dm.length:=List.length_map f
theorem ha{α:Type _}{l m:List α}{i:Nat}(h:i<l.length):(l++m)[i]? =l[i]?:=List.getElem?_append_left h
theorem dj{n m:Nat}(h:n.beq m=true):n=m:=Nat.eq_of_beq_eq_true h
theorem bm(a b:Bool):((a&&b)=true)=(a=true∧b=true):=Bool.and_eq_true a b
theorem bj{α:Type _}(a b:α):(some a=some b)=(a=b):=Option.some.injEq a b
theorem nm{α:Type _}{l:List α}{i j:Nat}(h:i≠j){a:α}:(l.set i a)[j]? =l[j]?:=List.getElem?_set_ne h
theorem dQ{α:Type _}{a:α}{l:List α}{i:Nat}:(a::l).drop (i+1)=l.drop i:=List.drop_succ_cons
theorem eI{α:Type _}{l:List α}{i:Nat}(h:i<l.length):l[i]? =some l[i]:=List.getElem?_eq_getElem h
theorem eN{n m:Nat}(h:n≤m):n.ble m=true:=Nat.ble_eq_true_of_le h
theorem dW{n m:Nat}(h:n.ble m=true):n≤m:=Nat.le_of_ble_eq_true h
theorem bS:(false=true)=False:=Bool.false_eq_true
theorem bT{α:Type _}{a:α}{dm:List α}:(a::dm).length=dm.length+1:=List.length_cons
theorem gu{α:Type _}{dm fb:List α}:(dm++fb).length=dm.length+fb.length:=List.length_append
theorem b6{p:Prop}[Decidable p]:(decide p=true)=p:=decide_eq_true_eq
theorem p2{α:Type _}(dm fb cs:List α):dm++fb++cs=dm++(fb++cs):=List.append_assoc dm fb cs
theorem bW{α:Type _}{l:List α}:l.drop 0=l:=List.drop_zero
theorem f0{α:Type _}{β:Type _}(a:α)(f:α→Option β):(some a).bind f=f a:=Option.bind_some a f
theorem ep{α:Type _}{β:Type _}(a:α)(f:α→β):(some a).map f=some (f a):=Option.map_some a f
theorem cx{α:Type _}:([]:List α).length=0:=List.length_nil
theorem p3{α:Type _}{a:α}:¬a∈([]:List α):=List.not_mem_nil
theorem m0{α:Type _}{l:List α}{n:Nat}(h:n<l.length):l[n]∈l:=List.getElem_mem h
theorem aB(n:Nat):n≤n:=Nat.le_refl n
theorem bf(n:Nat):0+n=n:=Nat.zero_add n
theorem er(b:Bool):(true&&b)=b:=Bool.true_and b
theorem fx(b:Bool):(false&&b)=false:=Bool.false_and b
theorem bX{α:Sort _}(a b:α):(bif true then a else b)=a:=rfl
theorem dF(h:Decidable True): @decide True h=true:=decide_true h
theorem dw(h:Decidable False): @decide False h=false:=decide_false h
theorem jq{α:Type _}{l:List α}{i:Nat}(h:i<l.length):l.drop i=l[i]::l.drop (i+1):=List.drop_eq_getElem_cons h
theorem jr{α:Type _}{l:List α}{i:Nat}(h:l.length≤i):l.take i=l:=List.take_of_length_le h
theorem l5{α:Type _}{l:List α}{i:Nat}(h:l.length≤i):l.drop i=[]:=List.drop_of_length_le h
theorem iJ{α:Type _}{β:Type _}(f:α→β)(l:List α)(i:Nat):(l.map f)[i]? =l[i]?.map f:=by simp
theorem g1:(!false)=true:=rfl
theorem g3:(!true)=false:=rfl
theorem bC(b:Bool):(b&&b)=b:=Bool.and_self b
theorem uj{α:Type _}(l:List α):l++[]=l:=List.append_nil l
theorem et(n m:Nat):n*m=m*n:=Nat.mul_comm n m
theorem hl{a b:Nat}(h:a<b):a%b=a:=Nat.mod_eq_of_lt h
theorem fy(a b c:Nat):a*(b+c)=a*b+a*c:=Nat.mul_add a b c
theorem gH(a b c:Nat):a*b*c=a*(b*c):=Nat.mul_assoc a b c
theorem fO{a b:Nat}(c:Nat)(h:a≤b):a*c≤b*c:=Nat.mul_le_mul_right c h
theorem fX{a b c:Nat}(h:a<b)(k:b≤c):a<c:=Nat.lt_of_lt_of_le h k
theorem jW{α:Type _}{l m:List α}{i:Nat}(h:l.length≤i):(l++m)[i]? =m[i-l.length]?:=List.getElem?_append_right h
theorem eW{α:Type _}{β:Type _}(a:α)(b:β)(c:α)(d:β):((a,b)=(c,d))=(a=c∧b=d):=Prod.mk.injEq a b c d
theorem cT{α:Type _}{a:α}{l:List α}{i:Nat}:(a::l).take (i+1)=a::l.take i:=List.take_succ_cons
theorem kF{α:Type _}{l:List α}(h:l.length=0):l=[]:=List.eq_nil_of_length_eq_zero h
theorem e5(a b c:Nat):(a+b)*c=a*c+b*c:=Nat.add_mul a b c
theorem gd{α:Type _}{β:Type _}{f:α→β}{a:α}{l:List α}:(a::l).map f=f a::l.map f:=List.map_cons
theorem gf(a:Nat):a.beq a=true:=Nat.beq_refl a
theorem cW{α:Type _}{l:List α}:l.take 0=[]:=List.take_zero
end Go
namespace Go.Ab
inductive Loc where
 |l (i:Nat)
 |g (d i:Nat)
 deriving DecidableEq,Inhabited
inductive e2 where
 |nil|exact |any
 |dt (a:Loc)
 deriving Inhabited
inductive ae where
 |dead
 |bool (b:Bool)
 |int (k:IntKind) (n:Int)
 |str (s:List Nat)
 |cr (sz:Nat) (es:List ae) (g:e2)
 |cZ (a:Loc) (off len cap sz:Nat)
 |ref (a:Loc) (off:Nat)
 |bP (cs:List ae)
 |hE
 |fn (f:Nat) (dC:List ae)
 |hT
 |map (a:Loc)
 |fe
 |iface (t:Nat) (v:ae)
 |hF
 |agg (cs:List ae)
 |eb (vs:List ae)
 |j8 (l:Nat)
 deriving Inhabited
inductive dp where
 |cells (cs:List ae)
 |tok (n:Nat)
 |map (es:List (ae×ae))
 |gone
 deriving Inhabited
structure ag where
 own:List dp
 up:List (List dp)
 ro:List (List dp)
 deriving Inhabited
def ag.aa(s:ag):Nat:=s.up.length+s.ro.length
inductive ah where
 |fail
 |ok (v:ae) (s:ag)
 |panic (v:ae) (s:ag)
 deriving Inhabited
inductive eH where
 |e
 |n (l:eH) (v:ae) (r:eH)
 deriving Inhabited
def eH.get:eH→Nat→ae
 |.e,_=>.dead
 |.n l v r,i=>bif Nat.beq i 0 then v else bif Nat.beq (i%2) 1 then l.get ((i-1)/2) else r.get ((i-1)/2)
def eH.iS:Nat→Nat→ae→(eH→ah)→eH→ah
 |0,_,_,_,_=>.fail
 |d+1,i,v,k,.e=>
  bif Nat.beq i 0 then k (.n .e v .e)
  else bif Nat.beq (i%2) 1 then eH.iS d ((i-1)/2) v (fun l=>k (.n l .dead .e)) .e
  else eH.iS d ((i-1)/2) v (fun r=>k (.n .e .dead r)) .e
 |d+1,i,v,k,.n l x r=>
  bif Nat.beq i 0 then k (.n l v r)
  else bif Nat.beq (i%2) 1 then eH.iS d ((i-1)/2) v (fun l=>k (.n l x r)) l
  else eH.iS d ((i-1)/2) v (fun r=>k (.n l x r)) r
inductive gg where
 |e
 |n (l:gg) (b:Bool) (r:gg)
 deriving Inhabited
def eH.js:gg→(eH→ah)→eH→ah
 |.e,k,_=>k .e
 |.n h _ u,k,.e=>eH.js h (fun l=>eH.js u (fun r=>k (.n l .dead r)) .e) .e
 |.n h b u,k,.n l v r=>eH.js h (fun l=>eH.js u (fun r=>k (.n l (bif b then v else .dead) r)) r) l
inductive bB where
 |t (n:Nat)
 |c (v:ae)
 |g (n:Nat)
 |at(t b off:Nat)
 |OJ (b off:Nat)
 deriving Inhabited
inductive wq where
 |int (k:IntKind)|str|bool
 deriving DecidableEq,Inhabited
inductive OK where
 |bool|slice|ptr|func|map|iface
 |agg (ig:List wq)
 deriving DecidableEq,Inhabited
inductive f9 where
 |move (x:bB)
 |oC (x:bB)
 |m1 (x:bB)
 |pick (c a b:bB)
 |alloc (zero:List ae)
 |fq (x:bB)
 |jP (x:bB)
 |build (zero:List ae) (parts:List (Nat×Nat×bB))
 |buildSlice (sz:Nat) (parts:List bB)
 |load (n:Option Nat) (a:bB)
 |store (n:Nat) (a v:bB)
 |nilCheck (x:bB)
 |bin (op:BinOp) (x y:bB)
 |eq (neg:Bool) (e:OK) (x y:bB)
 |un (op:UnOp) (x:bB)
 |k9 (k:IntKind) (x:bB)
 |nL (x:bB)
 |gI (x:bB)
 |iT (x:bB)
 |jB (t:Nat) (x:bB)
 |kb (f:Nat) (dC:List bB)
 |makeSlice (zero:List ae) (bytes:Nat) (l c:bB)
 |kc (x:bB) (gk bY:Option bB)
 |slice (sz:Nat) (x:bB) (gk bY iE:Option bB)
 |fieldAddr (off:Nat) (a:bB)
 |field (off:Nat) (n:Option Nat) (x:bB)
 |iK (sz:Nat) (x i:bB)
 |fr (sz len:Nat) (x i:bB)
 |mG (x i:bB)
 |nM (sz len:Nat) (n:Option Nat) (x i:bB)
 |extract (x:bB) (i:Nat)
 |call (f:Nat) (args:List bB)
 |eu (f:bB) (args:List bB)
 |hn (f:Nat) (args:List bB)
 |ly (f:bB) (args:List bB)
 |len (str:Bool) (x:bB)
 |append (sz bytes:Nat) (at_:Option bB) (s x:bB)
 |copy (sz:Nat) (d s:bB)
 |min (xs:List bB)
 |max (xs:List bB)
 |makeMap (at_:Option bB)
 |mH (kx:wq) (m k v:bB)
 |lookup (kx:wq) (zero:ae) (ok:Bool) (m k:bB)
 |uk (neg:Bool) (x:bB)
 |ln (ig:List (Option Nat×bB)) (f:Nat) (args:List bB)
 |jQ (ig:List (Option Nat×bB)) (f:bB) (args:List bB)
 |iO (sz len:Nat) (x:bB) (gk bY iE:Option bB)
 |jC (sz bytes:Nat) (at_:Option bB) (s x:bB)
 |jD (sz bytes:Nat) (at_:Option bB) (s x:bB)
 |gA (sz:Nat) (parts:List bB)
 |gB (sz:Nat) (parts:List bB)
 |jE (sz bytes:Nat) (s x:bB)
 |kZ (m:Option Nat) (y:bB) (n:Nat) (a v:bB)
 |no
 deriving Inhabited
structure cQ where
 dst:Option Nat
 guard:Option (Nat×Bool)
 op:f9
 deriving Inhabited
inductive ad where
 |skip
 |region (m2:Option (List (bB×Nat×bB×Nat))) (ops:List cQ)
 |seq (a b:ad)
 |mask (m:gg) (a:ad)
 |cond (c:bB) (ac7 ac8:ad)
 |block (id:Nat) (body:ad)
 |loop (bN:gg) (body:ad)
 |exit (id:Nat)
 |scope (body:ad)
 |ret
 |range (j f:Nat) (g:bB) (p:Nat) (assign body:ad)
 deriving Inhabited
inductive sG where
 |t (n:Nat)
 |cell (a:Nat) (n:Option Nat)
 deriving Inhabited
structure c0 where
 aas:Nat
 fL:Nat
 results:List sG
 bN:Bool
 body:ad
 deriving Inhabited
mutual
def ae.bb:ae→Bool
 |.cZ .. |.ref .. |.map _=>false
 |.cr _ _ (.dt _)=>false
 |.bP cs|.fn _ cs|.agg cs|.eb cs=>ae.a7 cs
 |.iface _ v=>v.bb
 |_=>true
def ae.a7:List ae→Bool
 |[]=>true
 |v::vs=>v.bb&&ae.a7 vs
end
def Loc.low(d:Nat):Loc→Bool
 |.l _=>false
 |.g e _=>Nat.ble e d
mutual
def ae.low(d:Nat):ae→Bool
 |.cZ a _ _ _ _=>a.low d
 |.ref a _=>a.low d
 |.map a=>a.low d
 |.cr _ _ (.dt a)=>a.low d
 |.bP cs|.fn _ cs|.agg cs|.eb cs=>ae.ky d cs
 |.iface _ v=>v.low d
 |_=>true
def ae.ky(d:Nat):List ae→Bool
 |[]=>true
 |v::vs=>v.low d&&ae.ky d vs
end
def Loc.ap(d:Nat):Loc→Loc
 |.l i=>.g d i
 |a=>a
def e2.ap(d:Nat):e2→e2
 |.dt a=>.dt (a.ap d)
 |g=>g
def ae.ap(d:Nat):ae→ae
 |.cr sz es g=>.cr sz es (g.ap d)
 |.cZ a off len cap sz=>.cZ (a.ap d) off len cap sz
 |.ref a off=>.ref (a.ap d) off
 |.map a=>.map (a.ap d)
 |v=>v
def ae.cells:ae→List ae
 |.agg cs=>cs
 |v=>[v]
def Fh:ae→ae
 |.agg xs=>.agg [.agg xs]
 |c=>c
def nn(sz:Nat)(cs:List ae):ae:=
 match sz with
 |1=>Fh (cs.getD 0 .dead)
 |_=>.agg (cs.take sz)
def chunk(sz:Nat):Nat→List ae→List ae
 |0,_=>[]
 |n+1,cs=>nn sz cs::chunk sz n (cs.drop sz)
def ag.get(s:ag):Loc→Option dp
 |.l i=>s.own[i]?
 |.g d i=>if d=s.aa then s.own[i]? else if d<s.aa then((s.up++s.ro)[s.aa-1-d]?).bind (·[i]?) else none
def ag.set(s:ag)(a:Loc)(o:dp):Option ag:=
 match a with
 |.l i=>some {s with own:=s.own.set i o}
 |.g d i=>
  if d=s.aa then some {s with own:=s.own.set i o}
  else if d<s.aa∧s.ro.length≤d then some {s with up:=s.up.modify (s.aa-1-d) (·.set i o)}
  else none
def ag.oD(s:ag):Loc→Bool
 |.l _=>true
 |.g d _=>d=s.aa
def ag.ho(s:ag)(a:Loc)(vs:List ae):Bool:=
 s.oD a||ae.a7 vs||(match a with
  |.g d _=>ae.ky d vs
  |.l _=>false)
def ag.new(s:ag)(o:dp):ag:={s with own:=s.own++[o]}
def ag.hd(s:ag)(a:Loc)(o:dp):Option (Loc×ag):=
 match a with
 |.l _=>some (.l s.own.length,s.new o)
 |.g d _=>
  if d=s.aa then some (.l s.own.length,s.new o)
  else if d<s.aa∧s.ro.length≤d then
   match s.up[s.aa-1-d]? with
   |some l=>some (.g d l.length,{s with up:=s.up.modify (s.aa-1-d) (· ++ [o])})
   |none=>none
  else none
def oE:Loc→Loc→Bool
 |.l i,.l j=>Nat.beq i j
 |.g d i,.g e j=>Nat.beq d e&&Nat.beq i j
 |_,_=>false
def Vl:ae→Nat→ae
 |.ref a o,off=>.ref a (o+off)
 |_,_=>.dead
def JG:ae→ae→Nat→ae
 |.ref a o,.ref fN o',off=>bif oE a fN&&Nat.beq o (o'+off) then .ref a o else .dead
 |_,_,_=>.dead
theorem zx{a b:Loc}(h:oE a b=true):a=b:=by
 cases a<;> cases b<;> simp [oE] at h
 ·rw[h]
 ·rw[h.1,h.2]
theorem Fi(x y:ae)(off:Nat):JG x y off=.dead∨(JG x y off=x∧JG x y off=Vl y off):=by
 cases x<;> cases y<;> try exact .inl rfl
 ·rename_i a o fN o';have e:JG (.ref a o) (.ref fN o') off=bif oE a fN&&Nat.beq o (o'+off) then .ref a o else .dead:=rfl
  rw[e];cases h:oE a fN&&Nat.beq o (o'+off) with
  |false=>exact .inl rfl
  |true=>simp only[bm] at h;have ar:=zx h.1;have av:=dj h.2;subst ar av;exact .inr ⟨rfl,rfl⟩
def aq(G:Nat→ae)(ao:Nat→ae):bB→ae
 |.t n=>ao n
 |.c v=>v
 |.g n=>G n
 |.at t b off=>JG (ao t) (ao b) off
 |.OJ b off=>Vl (ao b) off
def nN:ae→ae
 |.cr sz es (.dt a)=>bif ae.a7 es then .cr sz es .any else .cr sz es (.dt a)
 |v=>v
def iU(ao:eH)(d:Option Nat)(v:ae)(k:eH→ah):ah:=
 match d with
 |some n=>ao.iS 12 n v k
 |none=>k ao
structure aU where
 nJ:ae→(ae→ah)→ah
 v1:ae→(ae→ah)→ah
 l:List ae→(List ae→ah)→ah
 s:ag→(ag→ah)→ah
def aU.not:aU:={nJ:=fun v k=>k v,v1:=fun v k=>k v,l:=fun v k=>k v,s:=fun v k=>k v}
def eX:ae→Option Nat
 |.int _ n=>if 0≤n then some n.toNat else none
 |_=>none
def dG(s:ag):ae→Option (Nat×List ae)
 |.cr sz es (.dt _)=>if ae.a7 es then some (sz,es) else none
 |.cr sz es _=>some (sz,es)
 |.str fb=>some (1,fb.map fun b=>.int .u8 (b:Nat))
 |.cZ a off len _ sz=>
  match s.get a with
  |some (.cells cs)=>let es:=chunk sz len (cs.drop off);if ae.a7 es&&Nat.ble (off+len*sz) cs.length&& !Nat.beq sz 0 then some (sz,es) else none
  |_=>none
 |_=>none
def iV:List ae→List ae→Option Bool
 |[],[]=>some true
 |.int k a::xs,.int lz b::e=>if k=lz then(iV xs e).map ((a==b)&& ·) else none
 |.bool a::xs,.bool b::e=>(iV xs e).map ((a==b)&& ·)
 |.str a::xs,.str b::e=>(iV xs e).map ((a==b)&& ·)
 |_,_=>none
def jF:List Nat→List Nat→Bool
 |_,[]=>false
 |[],_::_=>true
 |a::x,b::y=>Nat.blt a b||(Nat.beq a b&&jF x y)
def gj(op:BinOp)(k:IntKind)(a b:Int):Option ae:=
 match op with
 |.add=>some (.int k (k.wrap (a+b)))
 |.sub=>some (.int k (k.wrap (a-b)))
 |.mul=>some (.int k (k.wrap (a*b)))
 |.quo=>if b=0 then none else some (.int k (k.wrap (a.tdiv b)))
 |.rem=>if b=0 then none else some (.int k (a.tmod b))
 |.and=>some (.int k (k.wrap (BitVec.ofInt k.bits a &&& BitVec.ofInt k.bits b).toNat))
 |.or=>some (.int k (k.wrap (BitVec.ofInt k.bits a ||| BitVec.ofInt k.bits b).toNat))
 |.xor=>some (.int k (k.wrap (BitVec.ofInt k.bits a ^^^ BitVec.ofInt k.bits b).toNat))
 |.andNot=>some (.int k (k.wrap (BitVec.ofInt k.bits a &&& ~~~BitVec.ofInt k.bits b).toNat))
 |.eql=>some (.bool (a==b))
 |.neq=>some (.bool (a != b))
 |.lss=>some (.bool (a<b))
 |.leq=>some (.bool (a≤b))
 |.gtr=>some (.bool (a>b))
 |.geq=>some (.bool (a≥b))
 |_=>none
def lA(op:BinOp)(k:IntKind)(a b:Int):Option ae:=
 if b<0 then none else
 match op with
 |.shl=>some (.int k (k.wrap (a*2^(min b.toNat k.bits))))
 |.shr=>some (.int k (a.fdiv (2^(min b.toNat k.bits))))
 |_=>none
def x1(op:BinOp)(x y:List Nat):Option ae:=
 match op with
 |.add=>if Nat.ble (x.length+y.length) 1099511627776 then some (.str (x++y)) else none
 |.eql=>some (.bool (x==y))
 |.neq=>some (.bool (!(x==y)))
 |.lss=>some (.bool (jF x y))
 |.leq=>some (.bool (jF x y||x==y))
 |.gtr=>some (.bool (!(jF x y||x==y)))
 |.geq=>some (.bool (!jF x y))
 |_=>none
def isNil:ae→Option Bool
 |.hE|.hT|.fe|.hF=>some true
 |.cr _ _ .nil=>some true
 |.cr _ _ .exact |.cr _ _ .any|.cr _ _ (.dt _)|.cZ .. |.ref .. |.bP _|.fn .. |.map _|.iface ..=>some false
 |_=>none
def gS:OK→ae→Bool
 |.slice,.cr .. |.slice,.cZ ..=>true
 |.ptr,.hE|.ptr,.ref .. |.ptr,.bP _=>true
 |.func,.hT|.func,.fn ..=>true
 |.map,.fe|.map,.map _=>true
 |.iface,.hF|.iface,.iface ..=>true
 |_,_=>false
def e8:List wq→List ae→Bool
 |[],[]=>true
 |.int k::ig,.int lz _::xs=>decide (lz=k)&&e8 ig xs
 |.str::ig,.str _::xs=>e8 ig xs
 |.bool::ig,.bool _::xs=>e8 ig xs
 |_,_=>false
def pw(e:OK)(x y:ae):Option Bool:=
 match e with
 |.bool=>
  match x,y with
  |.bool a,.bool b=>some (a==b)
  |_,_=>none
 |.agg ig=>
  match x,y with
  |.agg xs,.agg h=>bif e8 ig xs&&e8 ig h then iV xs h else none
  |_,_=>none
 |e=>
  bif gS e x&&gS e y then
   match isNil x,isNil y with
   |some true,some b=>bif b&&decide (e=.iface) then none else some b
   |some false,some true=>some false
   |_,_=>none
  else none
def x2(neg:Bool):ae→Option ae
 |.hF=>some (.bool (!neg))
 |.iface ..=>some (.bool neg)
 |_=>none
def al(op:BinOp)(x y:ae):Option ae:=
 match op,x,y with
 |.shl,.int k a,.int _ b=>lA .shl k a b
 |.shr,.int k a,.int _ b=>lA .shr k a b
 |op,.int k a,.int lz b=>if k=lz then gj op k a b else none
 |op,.str a,.str b=>x1 op a b
 |_,_,_=>none
def kv(op:UnOp)(x:ae):Option ae:=
 match op,x with
 |.neg,.int k n=>some (.int k (k.wrap (0-n)))
 |.xor,.int k n=>some (.int k (k.wrap (BitVec.ofInt k.bits (if k.signed then -1 else k.max) ^^^ BitVec.ofInt k.bits n).toNat))
 |.not,.bool b=>some (.bool (!b))
 |_,_=>none
def min2(x y:ae):Option ae:=
 match x,y with
 |.int k a,.int _ b=>some (.int k (if b<a then b else a))
 |_,_=>none
def max2(x y:ae):Option ae:=
 match x,y with
 |.int k a,.int _ b=>some (.int k (if b>a then b else a))
 |_,_=>none
def ul(f:ae→ae→Option ae):ae→List ae→Option ae
 |x,[]=>some x
 |x,y::e=>(f x y).bind fun z=>ul f z e
def dB(G:Nat→ae)(ao:Nat→ae)(o:Option bB)(e:Nat):Option Nat:=
 match o with
 |none=>some e
 |some x=>eX (aq G ao x)
def hY(es:List ae):Option (List Nat):=
 match es with
 |[]=>some []
 |.int .u8 n::es=>if n.toNat<256 then(hY es).map (n.toNat:: ·) else none
 |_=>none
def dN{α:Type}(cs:List α)(off:Nat)(vs:List α):List α:=
 match vs with
 |[]=>cs
 |v::vs=>dN (cs.set off v) (off+1) vs
def ae.ff:ae→Bool
 |.dead|.eb _=>false
 |_=>true
def ae.eG:ae→Bool
 |.dead|.eb _|.agg _=>false
 |_=>true
def fg(G:Nat→ae)(d:Nat)(ao:Nat→ae):List ae→List (Nat×Nat×bB)→Option (List ae)
 |cs,[]=>some cs
 |cs,(off,sz,x)::ea=>
  let v:=(aq G ao x).ap d
  bif v.ff&&Nat.beq v.cells.length sz&&Nat.ble (off+sz) cs.length then fg G d ao (dN cs off v.cells) ea else none
def qw(G:Nat→ae)(ao:Nat→ae):bB×Nat×bB×Nat→Bool
 |(x,n,y,m)=>
  match aq G ao x,aq G ao y with
  |.ref (.l i) o,.ref (.l j) q=> !Nat.beq i j||Nat.ble (o+n) q||Nat.ble (q+m) o
  |.bP _,.ref ..=>true
  |_,_=>false
inductive p4 where
 |norm|exit (id:Nat)|ret|panic (v:ae)
 deriving Inhabited
abbrev gl:=p4→eH→ag→ah
abbrev mE:=eH→ag→gl→ah
def gy(g:mE)(k:gl):gl:=fun x ao s=>
 match x with
 |.norm=>g ao s k
 |x=>k x ao s
def CL(g:mE)(k:gl):gl:=fun x ao s=>
 match x with
 |.norm=>g ao s k
 |_=>.fail
def fa(m:gg)(g:mE)(k:gl):gl:=fun x ao s=>
 match x with
 |.norm=>eH.js m (fun ao=>g ao s k) ao
 |x=>k x ao s
def eg(id:Nat)(k:gl):gl:=fun x ao s=>
 match x with
 |.exit j=>bif Nat.beq j id then k .norm ao s else k (.exit j) ao s
 |x=>k x ao s
def dP(step:mE)(bN:gg):Nat→mE
 |0,_,_,_=>.fail
 |n+1,ao,s,k=>step ao s (fa bN (dP step bN n) k)
structure Env where
 F:aU
 au:Nat→ae
 call:Nat→List ae→ag→ah
 loop:mE→gg→mE
def Loc.same:Loc→Loc→Bool
 |.l i,.l j=>Nat.beq i j
 |.g d i,.g e j=>Nat.beq d e&&Nat.beq i j
 |_,_=>false
def e2.same:e2→e2→Bool
 |.nil,.nil|.exact,.exact |.any,.any=>true
 |.dt a,.dt b=>a.same b
 |_,_=>false
mutual
def ae.same:ae→ae→Bool
 |.j8 l,.j8 m=>Nat.beq l m
 |.dead,.dead|.hE,.hE|.hT,.hT|.fe,.fe|.hF,.hF=>true
 |.bool a,.bool b=>a==b
 |.int k a,.int lz b=>decide (k=lz)&&a==b
 |.str a,.str b=>a==b
 |.cr z a g,.cr VH b g'=>Nat.beq z VH&&g.same g'&&ae.kG a b
 |.cZ a x y z q,.cZ fN kw tM VH p5=>a.same fN&&Nat.beq x kw&&Nat.beq y tM&&Nat.beq z VH&&Nat.beq q p5
 |.ref a x,.ref fN kw=>a.same fN&&Nat.beq x kw
 |.bP a,.bP b=>ae.kG a b
 |.fn f a,.fn wt b=>Nat.beq f wt&&ae.kG a b
 |.map a,.map b=>a.same b
 |.iface t v,.iface OF fB=>Nat.beq t OF&&v.same fB
 |.agg a,.agg b=>ae.kG a b
 |.eb a,.eb b=>ae.kG a b
 |_,_=>false
def ae.kG:List ae→List ae→Bool
 |[],[]=>true
 |a::as,b::fb=>a.same b&&ae.kG as fb
 |_,_=>false
end
def hZ(G:Nat→ae)(ao:Nat→ae):Option bB→Option Loc
 |none=>some (.l 0)
 |some x=>
  match aq G ao x with
  |.ref a _=>some a
  |.map a=>some a
  |_=>none
def sa:ae→ae→Option Bool
 |.int k a,.int lz b=>if k=lz then some (a==b) else none
 |.str a,.str b=>some (a==b)
 |.bool a,.bool b=>some (a==b)
 |_,_=>none
def isKey:wq→ae→Bool
 |.int k,.int lz _=>decide (lz=k)
 |.str,.str _=>true
 |.bool,.bool _=>true
 |_,_=>false
def findKey(k:ae):List (ae×ae)→Option (Option ae)
 |[]=>some none
 |(x,v)::es=>
  match sa k x with
  |some true=>some (some v)
  |some false=>findKey k es
  |none=>none
def putKey(k v:ae):List (ae×ae)→Option (List (ae×ae))
 |[]=>some [(k,v)]
 |(x,u)::es=>
  match sa k x with
  |some true=>some ((x,v)::es)
  |some false=>(putKey k v es).map ((x,u):: ·)
  |none=>none
section
variable(E:Env)(ao:Nat→ae)(s:ag)(k kp:ae→ag→ah)
def qu(v:Option ae):ah:=
 match v with
 |some v=>E.F.v1 v fun v=>k v s
 |none=>.fail
def eR(m:Option Nat)(cs:List ae):ah:=
 match m with
 |none=>match cs with
  |c::_=>E.F.nJ c fun v=>k v s
  |[]=>.fail
 |some n=>bif Nat.ble n cs.length then E.F.v1 (.agg (cs.take n)) fun v=>k v s else .fail
def ii(a:Loc)(off:Nat)(vs:List ae):ah:=
 match s.get a with
 |some (.cells cs)=>
  bif Nat.ble (off+vs.length) cs.length&&s.ho a vs&&vs.all ae.eG then
   E.F.l (dN cs off vs) fun cs=>
   match s.set a (.cells cs) with
   |some s=>E.F.s s fun s=>k .dead s
   |none=>.fail
  else .fail
 |_=>.fail
def jG(x:ae)(gk bY:Option bB):ah:=
 match x with
 |.str fb=>
  match dB E.au ao gk 0,dB E.au ao bY fb.length with
  |some l,some h=>bif Nat.ble l h&&Nat.ble h fb.length then E.F.v1 (.str ((fb.drop l).take (h-l))) fun v=>k v s else .fail
  |_,_=>.fail
 |_=>.fail
def pj(g:e2)(l h:Nat)(es:List ae):Bool:=
 match g with
 |.dt _=>(Nat.beq l 0&&Nat.beq h es.length)||ae.a7 es
 |_=>true
def um(g:e2)(es:List ae):Bool:=
 match g with
 |.dt _=>ae.a7 es
 |_=>true
def jR(z:Nat)(x:ae)(gk bY iE:Option bB):ah:=
 match x with
 |.cr sz es g=>
  match dB E.au ao gk 0,dB E.au ao bY es.length with
  |some l,some h=>
   match iE with
   |none=>
    bif Nat.beq z sz&&Nat.ble l h&&Nat.ble h es.length&&pj g l h es then
     E.F.v1 (.cr sz ((es.drop l).take (h-l)) (match g with
      |.nil=>.nil
      |.exact=>if h=es.length then .exact else .any
      |.dt a=>if l=0∧h=es.length then .dt a else .any
      |.any=>.any)) fun v=>k v s
    else .fail
   |some x=>
    match eX (aq E.au ao x),g with
    |_,.nil=>.fail
    |some m,_=>bif Nat.beq z sz&&Nat.ble l h&&Nat.ble h m&&Nat.ble m es.length&&um g es then E.F.v1 (.cr sz ((es.drop l).take (h-l)) (if h=m then .exact else .any)) fun v=>k v s else .fail
    |_,_=>.fail
  |_,_=>.fail
 |.cZ a off len cap sz=>
  match dB E.au ao gk 0,dB E.au ao bY len,dB E.au ao iE cap with
  |some l,some h,some m=>bif Nat.beq z sz&&Nat.ble l h&&Nat.ble h m&&Nat.ble m cap&&Nat.ble len cap then E.F.v1 (.cZ a (if m=l then off else off+l*sz) (h-l) (m-l) sz) fun v=>k v s else .fail
  |_,_,_=>.fail
 |_=>.fail
def hG(q bytes:Nat)(b:Loc)(x y:ae):ah:=
 match dG s y with
 |none=>.fail
 |some (z,new)=>
  match x with
  |.cr sz es g=>
   bif Nat.beq z q&&Nat.beq sz q&&Nat.ble ((es.length+new.length)*bytes) 1099511627776 then
    match new with
    |[]=>k (.cr sz es g) s
    |_::_=>
     match g with
     |.nil|.exact=>
      match s.hd b (.tok (es.length+new.length)) with
      |some (l,s)=>E.F.v1 (.cr sz (es++new) (.dt l)) fun v=>E.F.s s fun s=>k v s
      |none=>.fail
     |.dt a=>
      match s.get a with
      |some (.tok n)=>
       bif Nat.beq n es.length&&(new.flatMap ae.cells).all ae.eG then
        match s.set a (.tok (es.length+new.length)) with
        |some s=>E.F.v1 (.cr sz (es++new) (.dt a)) fun v=>E.F.s s fun s=>k v s
        |none=>.fail
       else .fail
      |_=>.fail
     |.any=>.fail
   else .fail
  |.cZ a off len cap sz=>
   match s.get a with
   |some (.cells cs)=>
    bif Nat.beq z q&&Nat.beq sz q&&Nat.ble (len+new.length) cap&&Nat.ble (off+(len+new.length)*sz) cs.length&&s.ho a new&&(new.flatMap ae.cells).all ae.eG then
     E.F.l (dN cs (off+len*sz) (new.flatMap ae.cells)) fun cs=>
     match s.set a (.cells cs) with
     |some s=>E.F.v1 (.cZ a off (len+new.length) cap sz) fun v=>E.F.s s fun s=>k v s
     |none=>.fail
    else .fail
   |_=>.fail
  |_=>.fail
def sb(s:ag)(l:Loc)(vs:List ae):Bool:=
 match l with
 |.l _=>ae.ky s.aa vs
 |.g d _=>ae.ky d vs
def jY(q bytes:Nat)(b:Loc)(x y:ae):ah:=
 match y with
 |.cr z new _=>
  match x with
  |.cr sz es g=>
   bif Nat.beq z q&&Nat.beq sz q&&Nat.ble ((es.length+new.length)*bytes) 1099511627776 then
    match new with
    |[]=>.fail
    |_::_=>
     match g with
     |.nil=>
      bif sb s b new then
       match s.hd b (.tok (es.length+new.length)) with
       |some (l,s)=>E.F.v1 (.cr sz (es++new) (.dt l)) fun v=>E.F.s s fun s=>k v s
       |none=>.fail
      else .fail
     |.dt a=>
      match s.get a with
      |some (.tok n)=>
       bif Nat.beq n es.length&&(new.flatMap ae.cells).all ae.eG&&sb s a new then
        match s.set a (.tok (es.length+new.length)) with
        |some s=>E.F.v1 (.cr sz (es++new) (.dt a)) fun v=>E.F.s s fun s=>k v s
        |none=>.fail
       else .fail
      |_=>.fail
     |_=>.fail
   else .fail
  |_=>.fail
 |_=>.fail
def x3(s:ag):ae→ae
 |.cZ (.g d i) o l c z=>bif Nat.beq d s.aa then .cZ (.l i) o l c z else .cZ (.g d i) o l c z
 |v=>v
def lU(q bytes:Nat)(x y:ae):ah:=
 match dG s y with
 |none=>.fail
 |some (z,new)=>
  match new with
  |[]=>.fail
  |_::_=>
   match x with
   |.cr sz [] .nil=>
    bif Nat.beq z q&&Nat.beq sz q&&Nat.ble (new.length*bytes) 1099511627776&&(new.flatMap ae.cells).all ae.eG then
     E.F.l (new.flatMap ae.cells) fun cs=>E.F.v1 (.cZ (.l s.own.length) 0 new.length 0 q) fun v=>E.F.s (s.new (.cells cs)) fun s=>k v s
    else .fail
   |.cZ (.l i) 0 len 0 sz=>
    match s.own[i]? with
    |some (.cells cs)=>
     bif Nat.beq z q&&Nat.beq sz q&&Nat.beq cs.length (len*q)&& !Nat.beq len 0&&Nat.ble ((len+new.length)*bytes) 1099511627776&&(new.flatMap ae.cells).all ae.eG&& !Nat.beq q 0 then
      E.F.l (cs++new.flatMap ae.cells) fun cs=>E.F.v1 (.cZ (.l s.own.length) 0 (len+new.length) 0 q) fun v=>E.F.s {s with own:=s.own.set i .gone++[.cells cs]} fun s=>k v s
     else .fail
    |_=>.fail
   |_=>.fail
def kz(sz:Nat)(x:ae)(i:ae):ah:=
 match eX i with
 |none=>.fail
 |some i=>
  match x with
  |.cr z es _=>
   bif Nat.beq z sz then
    match es[i]? with
    |some e=>E.F.v1 (.bP e.cells) fun v=>k v s
    |none=>.fail
   else .fail
  |.cZ a off len _ z=>bif Nat.beq z sz&&Nat.blt i len then E.F.v1 (.ref a (off+i*sz)) fun v=>k v s else .fail
  |_=>.fail
def hH(sz len:Nat)(x:ae)(i:ae):ah:=
 match eX i with
 |none=>.fail
 |some i=>
  bif Nat.blt i len then
   match x with
   |.bP cs=>E.F.v1 (.bP (cs.drop (i*sz))) fun v=>k v s
   |.ref a off=>E.F.v1 (.ref a (off+i*sz)) fun v=>k v s
   |_=>.fail
  else .fail
def eu(f:Nat)(args:List ae):ah:=
 match E.call f args s with
 |.ok v s'=>bif Nat.beq s'.aa s.aa then k v s' else .fail
 |.panic v s'=>kp v s'
 |.fail=>.fail
def cellsOf(v:ae):Option (List ae):=
 match v with
 |.bP cs=>some cs
 |.ref a off=>
  match s.get a with
  |some (.cells cs)=>some (cs.drop off)
  |_=>none
 |_=>none
def eY(s:ag)(n:Option Nat)(v:ae):Option (List ae):=(cellsOf s v).map fun cs=>cs.take (n.getD 1)
def nO:Option (List ae)→Option (List ae)→Bool
 |some a,some b=>ae.kG a b
 |_,_=>false
def hW(xs:List (Option Nat×ae))(f:Nat)(args:List ae):ah:=
 eu E s (fun v s'=>bif xs.all fun x=>nO (eY s x.1 x.2) (eY s' x.1 x.2) then k v s' else .fail) kp f args
def hs(f:Nat)(args:List ae):ah:=
 bif ae.a7 args then
  match E.call f args {own:=[],up:=[],ro:=[]} with
  |.ok v _=>bif v.bb then k v s else .fail
  |_=>.fail
 else .fail
def dX(n:Option Nat)(v:ae):ah:=
 match v with
 |.bP cs=>eR E s k n cs
 |.ref a off=>
  match s.get a with
  |some (.cells cs)=>eR E s k n (cs.drop off)
  |_=>.fail
 |_=>.fail
def gJ(off:Nat)(v:ae):ah:=
 match v with
 |.bP cs=>E.F.v1 (.bP (cs.drop off)) fun v=>k v s
 |.ref a o=>E.F.v1 (.ref a (o+off)) fun v=>k v s
 |_=>.fail
def lB(off:Nat)(n:Option Nat)(v:ae):ah:=
 match v with
 |.agg cs=>eR E s k n (cs.drop off)
 |_=>.fail
def h0(v i:ae):ah:=
 match v with
 |.str fb=>
  match eX i with
  |some i=>
   match fb[i]? with
   |some b=>E.F.v1 (.int .u8 b) fun v=>k v s
   |none=>.fail
  |none=>.fail
 |_=>.fail
def kd(sz len:Nat)(n:Option Nat)(v i:ae):ah:=
 match v with
 |.agg cs=>
  match eX i with
  |some i=>bif Nat.blt i len then eR E s k n (cs.drop (i*sz)) else .fail
  |none=>.fail
 |_=>.fail
def jZ(i:Nat)(v:ae):ah:=
 match v with
 |.eb vs=>qu E s k vs[i]?
 |_=>.fail
def pC(str:Bool)(v:ae):ah:=
 match str,v with
 |true,.str fb=>E.F.v1 (.int .i64 fb.length) fun v=>k v s
 |false,.cr _ es _=>E.F.v1 (.int .i64 es.length) fun v=>k v s
 |false,.cZ _ _ n _ _=>E.F.v1 (.int .i64 n) fun v=>k v s
 |_,_=>.fail
def copyV(d x:ae):ah:=
 match d with
 |.cZ a off len _ sz=>
  match dG s x with
  |some (z,es)=>
   match s.get a with
   |some (.cells cs)=>
    bif Nat.beq z sz&&Nat.ble (off+len*sz) cs.length&&((es.take (min es.length len)).flatMap ae.cells).all ae.eG then
     E.F.l (dN cs off ((es.take (min es.length len)).flatMap ae.cells)) fun cs=>
     match s.set a (.cells cs) with
     |some s=>E.F.v1 (.int .i64 (min es.length len:Nat)) fun v=>E.F.s s fun s=>k v s
     |none=>.fail
    else .fail
   |_=>.fail
  |none=>.fail
 |_=>.fail
def lC(q:Nat)(d x:ae):ah:=
 match d with
 |.cZ a off len cap sz=>bif Nat.beq sz q then copyV E s k (.cZ a off len cap sz) x else .fail
 |_=>.fail
def m3(zero:List ae)(bytes:Nat)(l c:ae):ah:=
 match eX l with
 |some l=>
  match eX c with
  |some c=>
   bif Nat.ble l c&&Nat.ble (c*bytes) 1099511627776 then
    E.F.l (List.replicate c zero).flatten fun cs=>E.F.v1 (.cZ (.l s.own.length) 0 l c zero.length) fun v=>E.F.s (s.new (.cells cs)) fun s=>k v s
   else .fail
  |none=>.fail
 |none=>.fail
def fh(n:Nat)(a v:ae):ah:=
 match a with
 |.ref a off=>bif v.ff&&Nat.beq v.cells.length n then ii E s k a off v.cells else .fail
 |_=>.fail
def la(m:Option Nat)(y:ae)(n:Nat)(a v:ae):ah:=
 fh E s (fun u t=>bif nO (eY s m y) (eY t m y) then k u t else .fail) n a v
def j0(d:IntKind)(v:ae):ah:=
 match v with
 |.int _ n=>E.F.v1 (.int d (d.wrap n)) fun v=>k v s
 |_=>.fail
def l6(v:ae):ah:=
 match v with
 |.str fb=>k (.str fb) s
 |_=>.fail
def hf(v:ae):ah:=
 match v with
 |.str fb=>E.F.v1 (.cr 1 (fb.map fun b=>.int .u8 (b:Nat)) .any) fun v=>k v s
 |_=>.fail
def gC(v:ae):ah:=
 match v with
 |.str _=>.fail
 |v=>
  match dG s v with
  |some (_,es)=>qu E s k ((hY es).map .str)
  |none=>.fail
def m4(c a b:ae):ah:=
 match c with
 |.bool t=>E.F.nJ (bif t then a else b) fun v=>k v s
 |_=>.fail
def iW(v:ae):ah:=
 match isNil v with
 |some false=>E.F.nJ v fun v=>k v s
 |_=>.fail
def mI(v:ae):ah:=
 match v with
 |.cZ (.l i) off len cap sz=>
  match s.own[i]? with
  |some (.cells cs)=>
   let es:=chunk sz len (cs.drop off)
   bif ae.a7 es&&Nat.ble (off+len*sz) cs.length&& !Nat.beq sz 0 then
    E.F.v1 (.cr sz es (if len=cap then .exact else .any)) fun v=>E.F.s {s with own:=s.own.set i .gone} fun s=>k v s
   else .fail
  |_=>.fail
 |_=>.fail
def hI(sz:Nat)(es:List ae):ah:=
 bif ae.a7 es&&es.all (fun e=>e.ff&&Nat.beq e.cells.length sz) then E.F.v1 (.cr sz es .exact) fun v=>k v s else .fail
def jH(sz:Nat)(es:List ae):ah:=
 bif ae.ky s.aa es&&es.all (fun e=>e.ff&&Nat.beq e.cells.length sz) then
  E.F.v1 (.cr sz es (.dt (.l s.own.length))) fun v=>E.F.s (s.new (.tok es.length)) fun s=>k v s
 else .fail
def jI(sz:Nat)(es:List ae):ah:=
 bif es.all (fun e=>e.ff&&Nat.beq e.cells.length sz) then
  E.F.l (es.flatMap ae.cells) fun cs=>E.F.v1 (.cZ (.l s.own.length) 0 es.length es.length sz) fun v=>E.F.s (s.new (.cells cs)) fun s=>k v s
 else .fail
def k2(f:ae)(args:List ae):ah:=
 match f with
 |.fn f dC=>E.F.l (args++dC) fun args=>eu E s k kp f args
 |_=>.fail
def jJ(f:ae)(args:List ae):ah:=
 match f with
 |.fn f dC=>E.F.l (args++dC) fun args=>hs E s k f args
 |_=>.fail
def ke(xs:List (Option Nat×ae))(f:ae)(args:List ae):ah:=
 match f with
 |.fn f dC=>E.F.l (args++dC) fun args=>hW E s k kp xs f args
 |_=>.fail
def k3(f:ae→ae→Option ae)(xs:List ae):ah:=
 match xs with
 |x::xs=>qu E s k (ul f x xs)
 |[]=>.fail
def f7(q bytes:Nat)(b:Option Loc)(x y:ae):ah:=
 match b with
 |some b=>hG E s k q bytes b x y
 |none=>.fail
def kH(q bytes:Nat)(b:Option Loc)(x y:ae):ah:=
 match x with
 |.cr sz es g=>f7 E s k q bytes b (.cr sz es g) y
 |_=>.fail
def l7(q bytes:Nat)(b:Option Loc)(x y:ae):ah:=
 match b with
 |some b=>jY E s k q bytes b x y
 |none=>.fail
def ix(z n:Nat)(x:ae)(gk bY iE:Option bB):ah:=
 match x with
 |.ref a off=>
  match dB E.au ao gk 0,dB E.au ao bY n,dB E.au ao iE n with
  |some l,some h,some m=>bif Nat.ble l h&&Nat.ble h m&&Nat.ble m n then E.F.v1 (.cZ a (if m=l then off else off+l*z) (h-l) (m-l) z) fun v=>k v s else .fail
  |_,_,_=>.fail
 |_=>.fail
def lV(b:Option Loc):ah:=
 match b with
 |some b=>
  match s.hd b (.map []) with
  |some (l,s)=>E.F.v1 (.map l) fun v=>E.F.s s fun s=>k v s
  |none=>.fail
 |none=>.fail
def lb(kx:wq)(m x v:ae):ah:=
 match m with
 |.map a=>
  match s.get a with
  |some (.map es)=>
   bif isKey kx x&&v.ff&&s.ho a [x,v] then
    match putKey x v es with
    |some es=>
     match s.set a (.map es) with
     |some s=>E.F.s s fun s=>k .dead s
     |none=>.fail
    |none=>.fail
   else .fail
  |_=>.fail
 |_=>.fail
def entriesOf:ae→Option (List (ae×ae))
 |.fe=>some []
 |.map a=>
  match s.get a with
  |some (.map es)=>some es
  |_=>none
 |_=>none
def lc(kx:wq)(zero:ae)(ok:Bool)(m x:ae):ah:=
 bif isKey kx x then
  match entriesOf s m with
  |some es=>
   match findKey x es with
   |some (some v)=>E.F.v1 (bif ok then .eb [v,.bool true] else v) fun v=>k v s
   |some none=>E.F.v1 (bif ok then .eb [zero,.bool false] else zero) fun v=>k v s
   |none=>.fail
  |none=>.fail
 else .fail
def aL(op:f9):ah:=
 match op with
 |.move x=>E.F.nJ (aq E.au ao x) fun v=>k v s
 |.m1 x=>E.F.nJ (nN (aq E.au ao x)) fun v=>k v s
 |.pick c a b=>m4 E s k (aq E.au ao c) (aq E.au ao a) (aq E.au ao b)
 |.alloc zero=>E.F.v1 (.ref (.l s.own.length) 0) fun v=>E.F.s (s.new (.cells zero)) fun s=>k v s
 |.fq x=>bif (aq E.au ao x).ff then E.F.v1 (.bP ((aq E.au ao x).ap s.aa).cells) fun v=>k v s else .fail
 |.jP x=>bif (aq E.au ao x).ff then E.F.l ((aq E.au ao x).ap s.aa).cells fun cs=>E.F.v1 (.ref (.l s.own.length) 0) fun v=>E.F.s (s.new (.cells cs)) fun s=>k v s else .fail
 |.build zero parts=>qu E s k ((fg E.au s.aa ao zero parts).map .agg)
 |.buildSlice sz parts=>hI E s k sz (parts.map (aq E.au ao))
 |.oC x=>mI E s k (aq E.au ao x)
 |.load n a=>dX E s k n (aq E.au ao a)
 |.store n a v=>fh E s k n (aq E.au ao a) ((aq E.au ao v).ap s.aa)
 |.kZ m y n a v=>la E s k m (aq E.au ao y) n (aq E.au ao a) ((aq E.au ao v).ap s.aa)
 |.nilCheck x=>iW E s k (aq E.au ao x)
 |.bin op x y=>qu E s k (al op (aq E.au ao x) (aq E.au ao y))
 |.eq neg e x y=>qu E s k ((pw e (aq E.au ao x) (aq E.au ao y)).map fun b=>.bool (bif neg then !b else b))
 |.un op x=>qu E s k (kv op (aq E.au ao x))
 |.k9 d x=>j0 E s k d (aq E.au ao x)
 |.nL x=>l6 s k (aq E.au ao x)
 |.gI x=>gC E s k (aq E.au ao x)
 |.iT x=>hf E s k (aq E.au ao x)
 |.jB t x=>E.F.v1 (.iface t ((aq E.au ao x).ap s.aa)) fun v=>k v s
 |.kb f dC=>E.F.v1 (.fn f (dC.map fun x=>(aq E.au ao x).ap s.aa)) fun v=>k v s
 |.makeSlice zero bytes l c=>m3 E s k zero bytes (aq E.au ao l) (aq E.au ao c)
 |.kc x gk bY=>jG E ao s k (aq E.au ao x) gk bY
 |.slice z x gk bY iE=>jR E ao s k z (aq E.au ao x) gk bY iE
 |.fieldAddr off a=>gJ E s k off (aq E.au ao a)
 |.field off n x=>lB E s k off n (aq E.au ao x)
 |.iK sz x i=>kz E s k sz (aq E.au ao x) (aq E.au ao i)
 |.fr sz len x i=>hH E s k sz len (aq E.au ao x) (aq E.au ao i)
 |.mG x i=>h0 E s k (aq E.au ao x) (aq E.au ao i)
 |.nM sz len n x i=>kd E s k sz len n (aq E.au ao x) (aq E.au ao i)
 |.extract x i=>jZ E s k i (aq E.au ao x)
 |.call f args=>E.F.l (args.map fun x=>(aq E.au ao x).ap s.aa) fun args=>eu E s k kp f args
 |.eu f args=>k2 E s k kp (aq E.au ao f) (args.map fun x=>(aq E.au ao x).ap s.aa)
 |.hn f args=>E.F.l (args.map fun x=>(aq E.au ao x).ap s.aa) fun args=>hs E s k f args
 |.ly f args=>jJ E s k (aq E.au ao f) (args.map fun x=>(aq E.au ao x).ap s.aa)
 |.len b x=>pC E s k b (aq E.au ao x)
 |.append q bytes b x y=>f7 E s k q bytes (hZ E.au ao b) (aq E.au ao x) (aq E.au ao y)
 |.copy q d x=>lC E s k q (aq E.au ao d) (aq E.au ao x)
 |.min xs=>k3 E s k min2 (xs.map fun x=>(aq E.au ao x).ap s.aa)
 |.max xs=>k3 E s k max2 (xs.map fun x=>(aq E.au ao x).ap s.aa)
 |.makeMap b=>lV E s k (hZ E.au ao b)
 |.mH kx m x v=>lb E s k kx (aq E.au ao m) ((aq E.au ao x).ap s.aa) ((aq E.au ao v).ap s.aa)
 |.lookup kx zero ok m x=>lc E s k kx zero ok (aq E.au ao m) ((aq E.au ao x).ap s.aa)
 |.ln ig f args=>E.F.l (args.map fun x=>(aq E.au ao x).ap s.aa) fun args=>hW E s k kp (ig.map fun x=>(x.1,aq E.au ao x.2)) f args
 |.jQ ig f args=>ke E s k kp (ig.map fun x=>(x.1,aq E.au ao x.2)) (aq E.au ao f) (args.map fun x=>(aq E.au ao x).ap s.aa)
 |.uk neg x=>qu E s k (x2 neg (aq E.au ao x))
 |.iO z n x gk bY iE=>ix E ao s k z n (aq E.au ao x) gk bY iE
 |.jD q bytes b x y=>l7 E s k q bytes (hZ E.au ao b) (aq E.au ao x) (aq E.au ao y)
 |.gA sz parts=>jH E s k sz (parts.map fun x=>(aq E.au ao x).ap s.aa)
 |.gB sz parts=>jI E s k sz (parts.map fun x=>(aq E.au ao x).ap s.aa)
 |.jE q bytes x y=>lU E s k q bytes (x3 s (aq E.au ao x)) (aq E.au ao y)
 |.jC q bytes b x y=>kH E s k q bytes (hZ E.au ao b) (aq E.au ao x) (aq E.au ao y)
 |.no=>.fail
end
def l8(g:Option (Nat×Bool))(ao:eH)(k:Bool→ah):ah:=
 match g with
 |none=>k true
 |some (t,want)=>
  match ao.get t with
  |.bool b=>k (b==want)
  |.eb _=>k false
  |_=>.fail
def fs(E:Env):List cQ→eH→ag→(eH→ag→ah)→(ae→eH→ag→ah)→ah
 |[],ao,s,fin,_=>fin ao s
 |o::os,ao,s,fin,e=>
  l8 o.guard ao fun w=>
   bif w then aL E ao.get s (fun v s=>iU ao o.dst v fun ao=>fs E os ao s fin e) (fun v s=>e v ao s) o.op
   else iU ao o.dst (.eb []) fun ao=>fs E os ao s fin e
def fR(A:Nat→List Nat)(i:Nat):Nat→List Nat→List Nat
 |0,_=>[]
 |k+1,m=>bif m.elem k then(bif Nat.beq k i then fR A i k (A k++m) else k::fR A i k (A k++m)) else fR A i k m
def qx:List ae→Option (List Nat)
 |[]=>some []
 |.int .i64 n::l=>if 0≤n then(qx l).map (n.toNat:: ·) else none
 |_::_=>none
def nP:ae→Option (List Nat)
 |.agg cs=>
  match (cs[2]? :Option ae) with
  |some (.cr 1 es _)=>qx es
  |_=>none
 |_=>none
def sc:List ae→Option (List (List Nat))
 |[]=>some []
 |e::es=>(nP e).bind fun a=>(sc es).map (a:: ·)
def zy(es:List ae)(i:Int):Option (List ae):=
 match sc es with
 |some A=>bif decide (0≤i)&&Nat.blt i.toNat es.length&&Nat.ble es.length 40&&A.all (fun l=>Nat.ble l.length 1000&&l.all (Nat.blt · es.length)) then some ((fR (A.getD · []) i.toNat (i.toNat+1) [i.toNat]).map fun k=>.int .i64 (k:Nat)) else none
 |none=>none
def qy(s:ag)(j:Nat)(dC:List ae):Option (List ae):=
 match j,dC with
 |0,[.bP [.int .i64 i],.bP [v]]=>(dG s v).bind fun p=>bif Nat.beq p.1 12 then zy p.2 i else none
 |_,_=>none
def fS(s s':ag):ae→Bool
 |.bP [.cZ a _ _ _ _]=>match s.get a,s'.get a with
  |some (.cells cs),some (.cells e)=>ae.kG cs e
  |_,_=>false
 |_=>true
def g4(step:ae→ag→(p4→ag→ah)→ah)(hA:ag)(dC:List ae):List ae→ag→(p4→ag→ah)→ah
 |[],s,k=>k .norm s
 |x::xs,s,k=>step x s fun e s=>
  match e with
  |.norm=>bif dC.all (fS hA s) then g4 step hA dC xs s k else .fail
  |e=>k e s
def nQ(j f:Nat)(g:ae)(step:ae→ag→(p4→ag→ah)→ah)(s:ag)(k:p4→ag→ah):ah:=
 match g with
 |.fn wt dC=>bif Nat.beq f wt then(match qy s j dC with
  |some xs=>g4 step s dC xs s k
  |none=>.fail) else .fail
 |_=>.fail
def exec(E:Env):ad→mE
 |.skip,ao,s,k=>k .norm ao s
 |.region none ops,ao,s,k=>fs E ops ao s (fun ao s=>k .norm ao s) (fun _ _ _=>.fail)
 |.region (some m2) ops,ao,s,k=>bif m2.all (qw E.au ao.get) then fs E ops ao s (fun ao s=>k .norm ao s) (fun _ _ _=>.fail) else .fail
 |.seq a b,ao,s,k=>exec E a ao s (gy (exec E b) k)
 |.mask m a,ao,s,k=>eH.js m (fun ao=>exec E a ao s k) ao
 |.cond c a b,ao,s,k=>
  match aq E.au ao.get c with
  |.bool t=>bif t then exec E a ao s k else exec E b ao s k
  |_=>.fail
 |.block id c,ao,s,k=>exec E c ao s (eg id k)
 |.loop bN c,ao,s,k=>eH.js bN (fun ao=>E.loop (exec E c) bN ao s k) ao
 |.exit id,ao,s,k=>k (.exit id) ao s
 |.scope c,ao,s,k=>exec E c ao s k
 |.ret,ao,s,k=>k .ret ao s
 |.range j f g p a b,ao,s,k=>nQ j f (aq E.au ao.get g) (fun x s lz=>iU ao (some p) x fun eh=>exec E a eh s (CL (exec E b) fun e _ s=>lz e s)) s fun e s=>k e ao s
def hp(s:ag)(i off len cap sz:Nat):Option ae:=
 match s.own[i]? with
 |some (.cells cs)=>let es:=chunk sz len (cs.drop off);if ae.a7 es&&Nat.ble (off+len*sz) cs.length&& !Nat.beq sz 0 then some (.cr sz es (if len=cap then .exact else .any)) else none
 |_=>none
def gm(s:ag):ae→Option ae
 |.cZ (.l i) off len cap sz=>hp s i off len cap sz
 |.cZ (.g d i) off len cap sz=>if d=s.aa then hp s i off len cap sz else if d<s.aa then some (.cZ (.g d i) off len cap sz) else none
 |.ref (.g d i) off=>if d<s.aa then some (.ref (.g d i) off) else none
 |.cr sz es (.dt (.l _))=>if ae.a7 es then some (.cr sz es .any) else none
 |.cr sz es (.dt (.g d i))=>if d<s.aa then some (.cr sz es (.dt (.g d i))) else if ae.a7 es then some (.cr sz es .any) else none
 |.map (.g d i)=>if d<s.aa then some (.map (.g d i)) else none
 |.fn f dC=>if ae.a7 dC then some (.fn f dC) else if Nat.blt 0 s.aa&&ae.ky (s.aa-1) dC then some (.fn f dC) else none
 |v=>if v.bb then some v else none
def fC{α β:Type}(f:α→Option β):List α→Option (List β)
 |[]=>some []
 |x::xs=>(f x).bind fun y=>(fC f xs).map fun e=>y::e
def np(s:ag):ae→Option ae
 |.agg cs=>(fC (gm s) cs).map .agg
 |v=>gm s v
def ld(s:ag)(sz:Nat)(es:List ae):Option ae:=if ae.a7 es then some (.cr sz es .any) else(fC (np s) es).bind fun es=>if ae.a7 es then some (.cr sz es .any) else none
def ev(s:ag):ae→Option ae
 |.cr sz es (.dt (.l _))=>ld s sz es
 |.cr sz es (.dt (.g d i))=>if d<s.aa then some (.cr sz es (.dt (.g d i))) else ld s sz es
 |v=>gm s v
def freeze(s:ag):ae→Option ae
 |.agg cs=>(fC (ev s) cs).map .agg
 |v=>ev s v
def qz(ao:eH)(s:ag):sG→Option ae
 |.t n=>some (ao.get n)
 |.cell a n=>
  match ao.get a with
  |.ref a off=>
   match s.get a,n with
   |some (.cells cs),none=>cs[off]?
   |some (.cells cs),some n=>if Nat.ble (off+n) cs.length then some (.agg ((cs.drop off).take n)) else none
   |_,_=>none
  |_=>none
def sH:List ae→ae
 |[v]=>v
 |vs=>.eb vs
def finish(F:aU)(fn:c0)(ao:eH)(s:ag):ah:=
 match fC (qz ao s) fn.results with
 |some vs=>
  if fn.bN then F.l (vs.map (ae.ap s.aa)) fun vs=>.ok (sH vs) s
  else
   match fC (freeze s) vs with
   |some vs=>
    match s.up with
    |own::up=>F.l vs fun vs=>F.s {own,up,ro:=s.ro} fun s=>.ok (sH vs) s
    |[]=>.fail
   |none=>.fail
 |none=>.fail
def JH(F:aU)(fn:c0):gl:=fun x ao s=>
 match x with
 |.norm=>finish F fn ao s
 |.ret=>finish F fn ao s
 |_=>.fail
def cw:List ae→Nat→eH→(eH→ah)→ah
 |[],_,ao,k=>k ao
 |v::vs,i,ao,k=>ao.iS 12 i v fun ao=>cw vs (i+1) ao k
def call(F:aU)(T:Nat→Option c0)(G:Nat→ae)(X:Nat→List ae→ag→ah):Nat→Nat→List ae→ag→ah
 |0,_,_,_=>.fail
 |n+1,f,args,s=>
  match T f with
  |none=>X f args s
  |some fn=>
   bif Nat.beq args.length fn.aas then
    cw args 0 .e fun ao=>exec {F,au:=G,call:=call F T G X n,loop:=fun step bN=>dP step bN n} fn.body ao
     (if fn.bN then s else {own:=[],up:=s.own::s.up,ro:=s.ro})
     (JH F fn)
   else .fail
theorem Loc.iy{a b:Loc}:a.same b=true↔a=b:=by cases a<;> cases b<;> simp [Loc.same]
theorem e2.iy{a b:e2}:a.same b=true↔a=b:=by cases a<;> cases b<;> simp [e2.same,Loc.iy]
mutual
theorem ae.iy:∀(a b:ae),a.same b=true↔a=b
 |.dead,b=>by cases b<;> simp [ae.same]
 |.hE,b=>by cases b<;> simp [ae.same]
 |.hT,b=>by cases b<;> simp [ae.same]
 |.j8 l,b=>by cases b<;> simp [ae.same]
 |.fe,b=>by cases b<;> simp [ae.same]
 |.hF,b=>by cases b<;> simp [ae.same]
 |.bool a,b=>by cases b<;> simp [ae.same]
 |.int k a,b=>by cases b<;> simp [ae.same]
 |.str a,b=>by cases b<;> simp [ae.same]
 |.cr z a g,b=>by cases b<;> simp [ae.same,e2.iy,ae.iF a,and_assoc];intro _;exact And.comm
 |.cZ a x y z q,b=>by cases b<;> simp [ae.same,Loc.iy,and_assoc]
 |.ref a x,b=>by cases b<;> simp [ae.same,Loc.iy]
 |.bP a,b=>by cases b<;> simp [ae.same,ae.iF a]
 |.fn f a,b=>by cases b<;> simp [ae.same,ae.iF a]
 |.map a,b=>by cases b<;> simp [ae.same,Loc.iy]
 |.iface t v,b=>by cases b<;> simp [ae.same,ae.iy v]
 |.agg a,b=>by cases b<;> simp [ae.same,ae.iF a]
 |.eb a,b=>by cases b<;> simp [ae.same,ae.iF a]
theorem ae.iF:∀(a b:List ae),ae.kG a b=true↔a=b
 |[],b=>by cases b<;> simp [ae.kG]
 |x::xs,b=>by cases b<;> simp [ae.kG,ae.iy x,ae.iF xs]
end
theorem xf{a b:Option (List ae)}:nO a b=true↔∃l,a=some l∧b=some l:=by cases a<;> cases b<;> simp only[nO,ae.iF,bS,bj,reduceCtorEq,false_and,and_false,exists_false,exists_eq_left'];exact eq_comm
def hB(n:Nat)(k:Nat→ah):ah:=Nat.casesOn n (k 0) (fun p=>k (p+1))
def pk(n:Int)(k:Int→ah):ah:=
 match n with
 |.ofNat m=>hB m fun m=>k (.ofNat m)
 |.negSucc m=>hB m fun m=>k (.negSucc m)
def nR:List Nat→(List Nat→ah)→ah
 |[],k=>k []
 |x::xs,k=>hB x fun x=>nR xs fun xs=>k (x::xs)
def qA(v:ae)(k:ae→ah):ah:=
 match v with
 |.dead=>k .dead
 |.bool b=>match b with
  |true=>k (.bool true)
  |false=>k (.bool false)
 |.int i n=>pk n fun n=>k (.int i n)
 |.str s=>k (.str s)
 |.cr sz es g=>k (.cr sz es g)
 |.cZ a off len cap sz=>k (.cZ a off len cap sz)
 |.ref a off=>k (.ref a off)
 |.bP cs=>k (.bP cs)
 |.hE=>k .hE
 |.fn f dC=>k (.fn f dC)
 |.hT=>k .hT
 |.j8 l=>k (.j8 l)
 |.map a=>k (.map a)
 |.fe=>k .fe
 |.iface t v=>k (.iface t v)
 |.hF=>k .hF
 |.agg cs=>k (.agg cs)
 |.eb vs=>k (.eb vs)
def lD:List ae→(List ae→ah)→ah
 |[],k=>k []
 |x::xs,k=>qA x fun x=>lD xs fun xs=>k (x::xs)
def lW(a:Loc)(k:Loc→ah):ah:=
 match a with
 |.l i=>hB i fun i=>k (.l i)
 |.g d i=>hB d fun d=>hB i fun i=>k (.g d i)
def uo(g:e2)(k:e2→ah):ah:=
 match g with
 |.nil=>k .nil
 |.exact=>k .exact
 |.any=>k .any
 |.dt a=>lW a fun a=>k (.dt a)
def x4(v:ae)(k:ae→ah):ah:=
 match v with
 |.dead=>k .dead
 |.bool b=>match b with
  |true=>k (.bool true)
  |false=>k (.bool false)
 |.int i n=>pk n fun n=>k (.int i n)
 |.str s=>nR s fun s=>k (.str s)
 |.cr sz es g=>lD es fun es=>uo g fun g=>k (.cr sz es g)
 |.cZ a off len cap sz=>lW a fun a=>hB off fun off=>hB len fun len=>hB cap fun cap=>k (.cZ a off len cap sz)
 |.ref a off=>lW a fun a=>hB off fun off=>k (.ref a off)
 |.bP cs=>lD cs fun cs=>k (.bP cs)
 |.hE=>k .hE
 |.fn f dC=>lD dC fun dC=>k (.fn f dC)
 |.hT=>k .hT
 |.j8 l=>k (.j8 l)
 |.map a=>lW a fun a=>k (.map a)
 |.fe=>k .fe
 |.iface t v=>qA v fun v=>k (.iface t v)
 |.hF=>k .hF
 |.agg cs=>lD cs fun cs=>k (.agg cs)
 |.eb vs=>lD vs fun vs=>k (.eb vs)
def sd(o:dp)(k:dp→ah):ah:=
 match o with
 |.cells cs=>k (.cells cs)
 |.tok n=>hB n fun n=>k (.tok n)
 |.map es=>k (.map es)
 |.gone=>k .gone
def l9:List dp→(List dp→ah)→ah
 |[],k=>k []
 |x::xs,k=>sd x fun x=>l9 xs fun xs=>k (x::xs)
def nq:List (List dp)→(List (List dp)→ah)→ah
 |[],k=>k []
 |x::xs,k=>l9 x fun x=>nq xs fun xs=>k (x::xs)
def uq(s:ag)(k:ag→ah):ah:=l9 s.own fun own=>nq s.up fun up=>nq s.ro fun ro=>k {own,up,ro}
def aU.full:aU:={nJ:=qA,v1:=x4,l:=lD,s:=uq}
theorem kf(n:Nat)(k:Nat→ah):hB n k=k n:=by cases n<;> rfl
theorem qB(n:Int)(k:Int→ah):pk n k=k n:=by cases n<;> simp [pk,kf]
theorem pD:∀(l:List Nat) (k:List Nat→ah),nR l k=k l
 |[],_=>rfl
 |x::xs,k=>by simp [nR,kf,pD xs]
theorem p6(v:ae)(k:ae→ah):qA v k=k v:=by cases v<;> simp only[qA,qB];split<;> rfl
theorem p7:∀(l:List ae) (k:List ae→ah),lD l k=k l
 |[],_=>rfl
 |x::xs,k=>by simp [lD,p6,p7 xs]
theorem qC(a:Loc)(k:Loc→ah):lW a k=k a:=by cases a<;> simp [lW,kf]
theorem zz(a:e2)(k:e2→ah):uo a k=k a:=by cases a<;> simp [uo,qC]
theorem CM(v:ae)(k:ae→ah):x4 v k=k v:=by cases v<;> simp only[x4,qB,pD,p7,qC,zz,kf,p6];split<;> rfl
theorem x5(o:dp)(k:dp→ah):sd o k=k o:=by cases o<;> simp [sd,kf]
theorem m5:∀(l:List dp) (k:List dp→ah),l9 l k=k l
 |[],_=>rfl
 |x::xs,k=>by simp [l9,x5,m5 xs]
theorem qD:∀(l:List (List dp)) (k:List (List dp)→ah),nq l k=k l
 |[],_=>rfl
 |x::xs,k=>by simp [nq,m5,qD xs]
theorem zA(s:ag)(k:ag→ah):uq s k=k s:=by simp [uq,m5,qD]
theorem aU.zB:aU.full=aU.not:=by
 unfold aU.full aU.not;congr<;> funext v k
 ·exact p6 v k
 ·exact CM v k
 ·exact p7 v k
 ·exact zA v k
def tN(f:Nat):List (Nat×c0)→Option c0
 |[]=>none
 |(g,c)::l=>bif Nat.beq f g then some c else tN f l
theorem sI{f:Nat}{c:c0}:∀{l:List (Nat×c0)},tN f l=some c→(f,c)∈l
 |[],h=>by cases h
 |(g,d)::l,h=>by
  simp only[tN] at h;cases e:Nat.beq f g with
  |true=>
   rw[e] at h
   have:=dj e;subst this;obtain rfl:=Option.some.inj h;exact List.mem_cons_self ..
  |false=>rw[e] at h;exact List.mem_cons_of_mem _ (sI h)
end Go.Ab
end
section
namespace Go.Ab
structure bh where
 F:Addr→Option Value
 n:Nat→Nat
 loc:Nat→Nat→Nat
 lo:Nat→Nat→Nat→Option (Addr×Nat×Nat)
def iz(κ:bh)(D:Nat)(sz:Nat):e2→Nat→Addr→Nat→Prop
 |.nil,_,_,_=>False
 |.exact,n,_,cap=>cap=n
 |.any,_,_,_=>True
 |.dt (.g d i),n,a,cap=>d<D∧i<κ.n d∧κ.lo d i n=some (a,cap,sz)
 |.dt (.l _),_,_,_=>False
def ur(g:e2)(es:List ae):Prop:=(∀e,e∈es→e.bb=true)∨∃d j,g=.dt (.g d j)∧∀e,e∈es→e.low d=true
inductive dA (κ:bh) (D:Nat):ae→Value→Prop
 |dead (x:Value):dA κ D .dead x
 |bool (b:Bool):dA κ D (.bool b) (.bool b)
 |int (k:IntKind) (n:Int):dA κ D (.int k n) (.int k n)
 |str (fb:List Nat) (s:ByteArray) (h:s.data.toList.map UInt8.toNat=fb):dA κ D (.str fb) (.string s)
 |kI (sz:Nat):dA κ D (.cr sz [] .nil) (.slice none 0 0)
 |cr (sz:Nat) (es:List ae) (g:e2) (a:Addr) (cap:Nat) (dr:Nat→Value) (cB:iz κ D sz g es.length a cap) (dk:es.length≤cap) (a3:es≠[]→a.spot=none)
   (eZ:∀e,e∈es→e.cells.length=sz) (aQ:ur g es)
   (h1:∀j,j<(es.flatMap ae.cells).length→κ.F (a.add j)=some (dr j))
   (bJ:∀(j:Nat) (c:ae),(es.flatMap ae.cells)[j]? =some c→dA κ D c (dr j)):dA κ D (.cr sz es g) (.slice (some a) es.length cap)
 |cZ (d i off len cap lE sz:Nat) (cR:d<D) (bY:i<κ.n d) (bK:len≤lE) (a1:lE=cap∨(cap=0∧0<len∧off=0∧κ.lo d i len=some (⟨κ.loc d i,0,none⟩,lE,sz))):dA κ D (.cZ (.g d i) off len cap sz) (.slice (some ⟨κ.loc d i,off,none⟩) len lE)
 |ref (d i off:Nat) (cR:d<D) (bY:i<κ.n d):dA κ D (.ref (.g d i) off) (.pointer (some ⟨κ.loc d i,off,none⟩))
 |bP (cs:List ae) (a:Addr) (dr:Nat→Value) (a3:a.spot=none) (h1:∀j,j<cs.length→κ.F (a.add j)=some (dr j))
   (bJ:∀(j:Nat) (c:ae),cs[j]? =some c→dA κ D c (dr j)):dA κ D (.bP cs) (.pointer (some a))
 |hE:dA κ D .hE (.pointer none)
 |fn (f:Nat) (cs:List ae) (xs:List Value) (bK:xs.length=cs.length) (bJ:∀(j:Nat) (c:ae) (x:Value),cs[j]? =some c→xs[j]? =some x→dA κ D c x):dA κ D (.fn f cs) (.func (.func f) #[] xs.toArray)
 |hT:dA κ D .hT .nilFunc
 |j8 (l:Nat):dA κ D (.j8 l) (.func (.yield l) #[] #[])
 |fe:dA κ D .fe (.map none)
 |map (d i:Nat) (cR:d<D) (bY:i<κ.n d):dA κ D (.map (.g d i)) (.map (some (κ.loc d i)))
 |iface (t:Nat) (v:ae) (x:Value) (h:dA κ D v x):dA κ D (.iface t v) (.iface t x)
 |hF:dA κ D .hF .nilIface
 |agg (cs:List ae) (xs:List Value) (bK:xs.length=cs.length) (bJ:∀(j:Nat) (c:ae) (x:Value),cs[j]? =some c→xs[j]? =some x→dA κ D c x):dA κ D (.agg cs) (.agg xs.toArray)
 |eb (cs:List ae) (xs:List Value) (bK:xs.length=cs.length) (bJ:∀(j:Nat) (c:ae) (x:Value),cs[j]? =some c→xs[j]? =some x→dA κ D c x):dA κ D (.eb cs) (.tuple xs.toArray)
def ej(κ:bh)(D:Nat)(cs:List ae)(xs:List Value):Prop:=xs.length=cs.length∧∀(j:Nat) (c:ae) (x:Value),cs[j]? =some c→xs[j]? =some x→dA κ D c x
structure gO (κ κ':bh) (D:Nat):Prop where
 F:∀a v,κ.F a=some v→κ'.F a=some v
 n:∀d,d<D→κ.n d≤κ'.n d
 loc:∀d i,d<D→i<κ.n d→κ'.loc d i=κ.loc d i
 lo:∀d i n x,d<D→i<κ.n d→κ.lo d i n=some x→κ'.lo d i n=some x
theorem gO.refl(κ:bh)(D:Nat):gO κ κ D:=⟨fun _ _ h=>h,fun _ _=>aB _,fun _ _ _ _=>rfl,fun _ _ _ _ _ _ h=>h⟩
theorem gO.trans{κ κ' r:bh}{D:Nat}(h:gO κ κ' D)(k:gO κ' r D):gO κ r D:=
 ⟨fun a v e=>k.F a v (h.F a v e),fun d cR=>Nat.le_trans (h.n d cR) (k.n d cR),
  fun d i cR bY=>(k.loc d i cR (fX bY (h.n d cR))).trans (h.loc d i cR bY),
  fun d i n x cR bY e=>k.lo d i n x cR (fX bY (h.n d cR)) (h.lo d i n x cR bY e)⟩
theorem gO.low{κ κ':bh}{D r:Nat}(h:gO κ κ' D)(e:r≤D):gO κ κ' r:=
 ⟨h.F,fun d cR=>h.n d (fX cR e),fun d i cR=>h.loc d i (fX cR e),fun d i n x cR=>h.lo d i n x (fX cR e)⟩
theorem iz.mono{κ κ':bh}{D sz n cap:Nat}{g:e2}{a:Addr}(h:iz κ D sz g n a cap)(k:gO κ κ' D):iz κ' D sz g n a cap:=by unfold iz at *;split at h<;> simp_all;obtain⟨ar,av,bO⟩:=h;exact⟨fX av (k.n _ ar),k.lo _ _ _ _ ar av bO⟩
theorem dA.mono{κ κ':bh}{D:Nat}{v:ae}{x:Value}(h:dA κ D v x)(k:gO κ κ' D):dA κ' D v x:=by
 induction h with
 |dead x=>exact .dead x
 |bool b=>exact .bool b
 |int k n=>exact .int k n
 |str fb s h=>exact .str fb s h
 |kI sz=>exact .kI sz
 |cr sz es g a cap dr cB dk a3 eZ aQ h1 bJ e=>exact .cr sz es g a cap dr (cB.mono k) dk a3 eZ aQ (fun j df=>k.F _ _ (h1 j df)) e
 |cZ d i off len cap lE sz cR bY bK a1=>rw[←k.loc d i cR bY];exact .cZ d i off len cap lE sz cR (fX bY (k.n d cR)) bK (a1.imp id fun⟨ar,av,bO,dD⟩=>⟨ar,av,bO,by rw[k.loc d i cR bY];exact k.lo d i len _ cR bY dD⟩)
 |ref d i off cR bY=>rw[←k.loc d i cR bY];exact .ref d i off cR (fX bY (k.n d cR))
 |bP cs a dr a3 h1 bJ e=>exact .bP cs a dr a3 (fun j df=>k.F _ _ (h1 j df)) e
 |hE=>exact .hE
 |fn f cs xs bK bJ e=>exact .fn f cs xs bK e
 |hT=>exact .hT
 |j8 l=>exact .j8 l
 |fe=>exact .fe
 |map d i cR bY=>rw[←k.loc d i cR bY];exact .map d i cR (fX bY (k.n d cR))
 |iface t v x h e=>exact .iface t v x e
 |hF=>exact .hF
 |agg cs xs bK bJ e=>exact .agg cs xs bK e
 |eb cs xs bK bJ e=>exact .eb cs xs bK e
theorem dA.up{κ:bh}{D u:Nat}{v:ae}{x:Value}(h:dA κ D v x)(r:D≤u):dA κ u v x:=by
 induction h with
 |dead x=>exact .dead x
 |bool b=>exact .bool b
 |int k n=>exact .int k n
 |str fb s h=>exact .str fb s h
 |kI sz=>exact .kI sz
 |cr sz es g a cap dr cB dk a3 eZ aQ h1 bJ e=>refine .cr sz es g a cap dr ?_ dk a3 eZ aQ h1 e;unfold iz at *;split at cB<;> simp_all;exact fX cB.1 r
 |cZ d i off len cap lE sz cR bY bK a1=>exact .cZ d i off len cap lE sz (fX cR r) bY bK a1
 |ref d i off cR bY=>exact .ref d i off (fX cR r) bY
 |bP cs a dr a3 h1 bJ e=>exact .bP cs a dr a3 h1 e
 |hE=>exact .hE
 |fn f cs xs bK bJ e=>exact .fn f cs xs bK e
 |hT=>exact .hT
 |j8 l=>exact .j8 l
 |fe=>exact .fe
 |map d i cR bY=>exact .map d i (fX cR r) bY
 |iface t v x h e=>exact .iface t v x e
 |hF=>exact .hF
 |agg cs xs bK bJ e=>exact .agg cs xs bK e
 |eb cs xs bK bJ e=>exact .eb cs xs bK e
theorem iG{cs:List ae}(h:ae.a7 cs=true){j:Nat}{c:ae}(a1:cs[j]? =some c):c.bb=true:=by
 induction cs generalizing j with
 |nil=>simp at a1
 |cons v vs e=>
  simp only[ae.a7,bm] at h;cases j with
  |zero=>simp at a1;exact a1 ▸ h.1
  |succ j=>exact e h.2 (by simpa using a1)
theorem ed{cs:List ae}:ae.a7 cs=true↔∀c,c∈cs→c.bb=true:=by
 induction cs with
 |nil=>simp [ae.a7]
 |cons v vs e=>simp [ae.a7,e]
theorem h2{e:ae}(h:e.bb=true){c:ae}(a1:c∈e.cells):c.bb=true:=by
 unfold ae.cells at a1;split at a1
 ·exact ed.1 (by simpa [ae.bb] using h) c a1
 ·simp at a1;exact a1 ▸ h
theorem dA.bb{κ:bh}{D:Nat}{v:ae}{x:Value}(h:dA κ D v x)(aQ:v.bb=true){κ':bh}(y:Nat)(h1:∀a v,κ.F a=some v→κ'.F a=some v):dA κ' y v x:=by
 induction h with
 |dead x=>exact .dead x
 |bool b=>exact .bool b
 |int k n=>exact .int k n
 |str fb s h=>exact .str fb s h
 |kI sz=>exact .kI sz
 |cr sz es g a cap dr cB dk a3 eZ ie u bJ r=>
  refine .cr sz es g a cap dr ?_ dk a3 eZ ie (fun j df=>h1 _ _ (u j df)) (fun j c a1=>r j c a1 ?_)
  ·cases g<;> simp_all [ae.bb,iz]
  ·obtain⟨e,he,A⟩:=List.mem_flatMap.1 (List.mem_of_getElem? a1);rcases ie with ie|⟨d,j,rfl,_⟩
   ·exact h2 (ie e he) A
   ·simp [ae.bb] at aQ
 |cZ d i off len cap lE sz cR bY bK a1=>simp [ae.bb] at aQ
 |ref d i off cR bY=>simp [ae.bb] at aQ
 |bP cs a dr a3 u bJ r=>exact .bP cs a dr a3 (fun j df=>h1 _ _ (u j df)) (fun j c a1=>r j c a1 (iG (by simpa [ae.bb] using aQ) a1))
 |hE=>exact .hE
 |fn f cs xs bK bJ r=>exact .fn f cs xs bK (fun j c x a1 a9=>r j c x a1 a9 (iG (by simpa [ae.bb] using aQ) a1))
 |hT=>exact .hT
 |j8 l=>exact .j8 l
 |fe=>exact .fe
 |map d i cR bY=>simp [ae.bb] at aQ
 |iface t v x h r=>exact .iface t v x (r (by simpa [ae.bb] using aQ))
 |hF=>exact .hF
 |agg cs xs bK bJ r=>exact .agg cs xs bK (fun j c x a1 a9=>r j c x a1 a9 (iG (by simpa [ae.bb] using aQ) a1))
 |eb cs xs bK bJ r=>exact .eb cs xs bK (fun j c x a1 a9=>r j c x a1 a9 (iG (by simpa [ae.bb] using aQ) a1))
theorem jf{v:ae}(h:v.bb=true)(d:Nat):v.ap d=v:=by cases v<;> simp_all [ae.bb,ae.ap];rename_i g;cases g<;> simp_all [ae.bb,e2.ap]
theorem nr{d:Nat}{cs:List ae}(h:ae.ky d cs=true){j:Nat}{c:ae}(a1:cs[j]? =some c):c.low d=true:=by
 induction cs generalizing j with
 |nil=>simp at a1
 |cons v vs e=>
  simp only[ae.ky,bm] at h;cases j with
  |zero=>simp at a1;exact a1 ▸ h.1
  |succ j=>exact e h.2 (by simpa using a1)
theorem Loc.j1{d fG:Nat}(h:d≤fG){a:Loc}(r:a.low d=true):a.low fG=true:=by
 cases a with
 |l i=>cases r
 |g e i=>exact eN (Nat.le_trans (dW r) h)
mutual
theorem ae.j1{d fG:Nat}(h:d≤fG):∀(v:ae),v.low d=true→v.low fG=true
 |.dead,_|.bool _,_|.int _ _,_|.str _,_|.hE,_|.hT,_|.j8 _,_|.fe,_|.hF,_=>rfl
 |.cr sz es g,bJ=>by
  cases g with
  |dt a=>exact Loc.j1 h bJ
  |nil=>rfl
  |exact=>rfl
  |any=>rfl
 |.cZ a _ _ _ _,bJ=>Loc.j1 h bJ
 |.ref a _,bJ=>Loc.j1 h bJ
 |.map a,bJ=>Loc.j1 h bJ
 |.bP cs,bJ=>ae.ma h cs bJ
 |.fn _ cs,bJ=>ae.ma h cs bJ
 |.agg cs,bJ=>ae.ma h cs bJ
 |.eb cs,bJ=>ae.ma h cs bJ
 |.iface _ v,bJ=>ae.j1 h v bJ
theorem ae.ma{d fG:Nat}(h:d≤fG):∀(vs:List ae),ae.ky d vs=true→ae.ky fG vs=true
 |[],_=>rfl
 |v::vs,bJ=>by simp only[ae.ky,bm] at bJ ⊢;exact⟨ae.j1 h v bJ.1,ae.ma h vs bJ.2⟩
end
mutual
theorem ae.lF(d:Nat):∀(v:ae),v.bb=true→v.low d=true
 |.dead,_|.bool _,_|.int _ _,_|.str _,_|.hE,_|.hT,_|.j8 _,_|.fe,_|.hF,_=>rfl
 |.cr sz es g,bJ=>by
  cases g with
  |dt a=>simp [ae.bb] at bJ
  |nil=>rfl
  |exact=>rfl
  |any=>rfl
 |.cZ a _ _ _ _,bJ=>by simp [ae.bb] at bJ
 |.ref a _,bJ=>by simp [ae.bb] at bJ
 |.map a,bJ=>by simp [ae.bb] at bJ
 |.bP cs,bJ=>ae.iH d cs bJ
 |.fn _ cs,bJ=>ae.iH d cs bJ
 |.agg cs,bJ=>ae.iH d cs bJ
 |.eb cs,bJ=>ae.iH d cs bJ
 |.iface _ v,bJ=>ae.lF d v bJ
theorem ae.iH(d:Nat):∀(vs:List ae),ae.a7 vs=true→ae.ky d vs=true
 |[],_=>rfl
 |v::vs,bJ=>by simp only[ae.a7,bm] at bJ;simp only[ae.ky,bm];exact⟨ae.lF d v bJ.1,ae.iH d vs bJ.2⟩
end
theorem kJ{d:Nat}{cs:List ae}:ae.ky d cs=true↔∀c,c∈cs→c.low d=true:=by
 induction cs with
 |nil=>simp [ae.ky]
 |cons v vs e=>simp [ae.ky,e]
theorem us{d:Nat}{e:ae}(h:e.low d=true){c:ae}(a1:c∈e.cells):c.low d=true:=by
 unfold ae.cells at a1;split at a1
 ·exact kJ.1 (by simpa [ae.low] using h) c a1
 ·simp at a1;exact a1 ▸ h
theorem dA.lower{κ:bh}{D d:Nat}{v:ae}{x:Value}(h:dA κ D v x)(bK:v.low d=true):dA κ (d+1) v x:=by
 induction h with
 |dead x=>exact .dead x
 |bool b=>exact .bool b
 |int k n=>exact .int k n
 |str fb s h=>exact .str fb s h
 |kI sz=>exact .kI sz
 |cr sz es g a cap dr cB dk a3 eZ ie y bJ r=>
  refine .cr sz es g a cap dr ?_ dk a3 eZ ie y (fun j c a1=>?_)
  ·cases g with
   |dt l=>
    cases l with
    |l i=>simp [ae.low,Loc.low] at bK
    |g e i=>exact⟨Nat.lt_succ_of_le (dW (by simpa [ae.low,Loc.low] using bK)),cB.2⟩
   |nil=>exact cB
   |exact=>exact cB
   |any=>exact cB
  ·obtain⟨e,he,A⟩:=List.mem_flatMap.1 (List.mem_of_getElem? a1);rcases ie with ie|⟨fG,hx,rfl,ie⟩
   ·exact(bJ j c a1).bb (h2 (ie e he) A) _ (fun _ _ h=>h)
   ·exact r j c a1 (ae.j1 (dW (by simpa [ae.low,Loc.low] using bK)) c (us (ie e he) A))
 |cZ e i off len cap lE sz cR bY u a1=>exact .cZ e i off len cap lE sz (Nat.lt_succ_of_le (dW (by simpa [ae.low,Loc.low] using bK))) bY u a1
 |ref e i off cR bY=>exact .ref e i off (Nat.lt_succ_of_le (dW (by simpa [ae.low,Loc.low] using bK))) bY
 |bP cs a dr a3 y bJ r=>exact .bP cs a dr a3 y (fun j c a1=>r j c a1 (nr (by simpa [ae.low] using bK) a1))
 |hE=>exact .hE
 |fn f cs xs u bJ r=>exact .fn f cs xs u (fun j c x a1 a9=>r j c x a1 a9 (nr (by simpa [ae.low] using bK) a1))
 |hT=>exact .hT
 |j8 l=>exact .j8 l
 |fe=>exact .fe
 |map e i cR bY=>exact .map e i (Nat.lt_succ_of_le (dW (by simpa [ae.low,Loc.low] using bK))) bY
 |iface t v x h r=>exact .iface t v x (r (by simpa [ae.low] using bK))
 |hF=>exact .hF
 |agg cs xs u bJ r=>exact .agg cs xs u (fun j c x a1 a9=>r j c x a1 a9 (nr (by simpa [ae.low] using bK) a1))
 |eb cs xs u bJ r=>exact .eb cs xs u (fun j c x a1 a9=>r j c x a1 a9 (nr (by simpa [ae.low] using bK) a1))
def Vm(jt:Nat×Nat)(n:Nat):Prop:=∀j,j<n→¬(jt.1≤j∧j<jt.2)
def mb(κ:bh)(D:Nat)(es:List (ae×ae))(fi:List MapEntry):Prop:=
 fi.length=es.length∧∀(j:Nat) (p:ae×ae) (e:MapEntry),es[j]? =some p→fi[j]? =some e→dA κ D p.1 e.key∧dA κ D p.2 e.val
theorem mb.mono{κ κ':bh}{D:Nat}{es:List (ae×ae)}{fi:List MapEntry}(h:mb κ D es fi)(k:gO κ κ' D):mb κ' D es fi:=
 ⟨h.1,fun j p e fp he=>⟨(h.2 j p e fp he).1.mono k,(h.2 j p e fp he).2.mono k⟩⟩
def zv(κ:bh)(d i:Nat)(w:World):dp→Prop
 |.cells cs=>(∃C e jt,w.heap[κ.loc d i]? =some (.cells C e jt)∧Vm jt C.size∧ej κ (d+1) cs (C.toList.take cs.length)∧∀m b cap sz,κ.lo d i m=some (b,cap,sz)→cap*sz≤C.size)∧∀o,κ.F ⟨κ.loc d i,o,none⟩=none
 |.tok n=>∃b cap sz,κ.lo d i n=some (⟨b,0,none⟩,cap,sz)∧n≤cap∧(∃C e jt,w.heap[b]? =some (.cells C e jt)∧C.size=cap*sz∧Vm jt C.size)∧(∀o,n*sz≤o→κ.F ⟨b,o,none⟩=none)∧∀m,n<m→κ.lo d i m=none
 |.gone=>True
 |.map es=>∃fi clock,w.heap[κ.loc d i]? =some (.map fi clock)∧mb κ (d+1) es fi.toList
def bg(κ:bh)(d i:Nat):dp→Option Nat
 |.cells _|.map _=>some (κ.loc d i)
 |.tok n=>(κ.lo d i n).map (·.1.block)
 |.gone=>none
def ag.ao(s:ag)(d:Nat):Option (List dp):=if d=s.aa then some s.own else if d<s.aa then(s.up++s.ro)[s.aa-1-d]? else none
theorem ag.mc(s:ag)(d i:Nat):s.get (.g d i)=(s.ao d).bind (·[i]?):=by
 unfold ag.get ag.ao;by_cases h:d=s.aa
 ·simp [h]
 ·by_cases e:d<s.aa<;> simp [h,e]
theorem ag.hJ(s:ag)(a:Loc):s.get (a.ap s.aa)=s.get a:=by
 cases a with
 |l i=>simp [Loc.ap,ag.get]
 |g d i=>rfl
structure cY (κ:bh) (s:ag) (w:World):Prop where
 iA:∀a v,κ.F a=some v→a.spot=none∧w.cell? a=some v
 len:∀d l,s.ao d=some l→l.length=κ.n d
 obj:∀d i o,s.get (.g d i)=some o→zv κ d i w o
 inj:∀d i o fG hx o' b,s.get (.g d i)=some o→s.get (.g fG hx)=some o'→bg κ d i o=some b→bg κ fG hx o'=some b→d=fG∧i=hx
def Live(κ:bh)(s:ag)(b:Nat):Prop:=∃d i o,s.get (.g d i)=some o∧bg κ d i o=some b
structure ft (κ:bh) (s:ag) (w:World) (κ':bh) (s':ag) (w':World):Prop where
 k:gO κ κ' (s.aa+1)
 aa:s'.aa=s.aa
 size:w.heap.size≤w'.heap.size
 os:w'.os=w.os
 tape:w'.tape=w.tape
 output:w'.output=w.output
 kK:∀b,b<w.heap.size→¬Live κ s b→w'.heap[b]? =w.heap[b]?
 live:∀b,b<w.heap.size→Live κ' s' b→Live κ s b
 oF:∀a,κ'.F a≠none→κ.F a≠none∨w.heap.size≤a.block∨Live κ s a.block
theorem ft.refl(κ:bh)(s:ag)(w:World):ft κ s w κ s w:=
 ⟨.refl _ _,rfl,aB _,rfl,rfl,rfl,fun _ _ _=>rfl,fun _ _ h=>h,fun _ h=>.inl h⟩
theorem ft.trans{κ r u:bh}{s y A:ag}{w B F:World}(h:ft κ s w r y B)(k:ft r y B u A F):ft κ s w u A F:=by
 refine⟨h.k.trans (h.aa ▸ k.k),k.aa.trans h.aa,Nat.le_trans h.size k.size,k.os.trans h.os,k.tape.trans h.tape,k.output.trans h.output,fun b e bK=>?_,fun b e bK=>?_,fun a H=>?_⟩
 ·rw[k.kK b (fX e h.size) (fun I=>bK (h.live b e I)),h.kK b e bK]
 ·exact h.live b e (k.live b (fX e h.size) bK)
 ·rcases k.oF a H with ar|ar|ar
  ·exact h.oF a ar
  ·exact .inr (.inl (Nat.le_trans h.size ar))
  ·by_cases e:a.block<w.heap.size
   ·exact .inr (.inr (h.live _ e ar))
   ·exact .inr (.inl (by omega))
def wl(κ:bh)(s:ag)(ao:Nat→ae)(a:Act):Prop:=∀t,dA κ (s.aa+1) ((ao t).ap s.aa) (a.tmps.getD t undef)
theorem wl.ext{κ κ':bh}{s s':ag}{w w':World}{ao:Nat→ae}{a:Act}(h:wl κ s ao a)(e:ft κ s w κ' s' w'):wl κ' s' ao a:=by
 intro t
 have:=(h t).mono e.k;rw[e.aa];exact this
theorem fT{a:Addr}(h:a.spot=none)(j:Nat):a.add j=⟨a.block,a.off+j,none⟩:=by
 unfold Addr.add;split
 ·subst_vars;cases a;simp_all
 ·cases a;simp_all
theorem add_add{a:Addr}(i j:Nat):(a.add i).add j=a.add (i+j):=by unfold Addr.add;by_cases bY:i=0<;> by_cases df:j=0<;> simp_all<;> omega
theorem md{a:Addr}(h:a.spot=none)(j:Nat):(a.add j).spot=none:=by rw[fT h]
theorem fH{α:Type}(vs:List α):∀(cs:List α) (o:Nat),(dN cs o vs).length=cs.length:=by
 induction vs with
 |nil=>intro cs o;rfl
 |cons v vs e=>intro cs o;simp [dN,e]
theorem gK{α:Type}(vs:List α):∀(cs:List α) (o:Nat),o+vs.length≤cs.length→∀j,(dN cs o vs)[j]? =if o≤j∧j<o+vs.length then vs[j-o]? else cs[j]?:=by
 induction vs with
 |nil=>intro cs o _ j;simp [dN];omega
 |cons v vs e=>
  intro cs o h j;simp only[bT] at h;simp only[dN];rw[e (cs.set o v) (o+1) (by simp;omega)];by_cases df:j=o
  ·subst df;rw[if_neg (by omega),if_pos (by simp)];simp only[Nat.sub_self,List.getElem?_cons_zero];rw[List.getElem?_set_self (by omega)]
  ·by_cases ar:o+1≤j∧j<o+1+vs.length
   ·rw[if_pos ar,if_pos (by simp;omega)];obtain⟨m,rfl⟩:∃m,j=o+1+m:=⟨j-(o+1),by omega⟩;simp only[show o+1+m-(o+1)=m by omega,show o+1+m-o=m+1 by omega,List.getElem?_cons_succ]
   ·rw[if_neg ar,if_neg (by simp;omega)];rw[nm (by omega)]
theorem me(vs:List Value):∀(w:World) (b o:Nat) (C:Array Value) (e:TypeId) (jt:Nat×Nat),w.heap[b]? =some (.cells C e jt)→o+vs.length≤C.size→
  ∀h,(w.setCells b o vs).heap[h]? =if h=b then some (.cells (dN C.toList o vs).toArray e jt) else w.heap[h]?:=by
 induction vs with
 |nil=>intro w b o C e jt r _ h;simp only[World.setCells,dN];split<;> simp_all
 |cons v vs u=>
  intro w b o C e jt r y h;simp only[bT] at y;have ar:(w.setCell ⟨b,o,none⟩ v).heap[b]? =some (.cells (C.setIfInBounds o v) e jt):=by simp [World.setCell,Array.getElem?_modify,r]
  rw[World.setCells,u _ b (o+1) _ e jt ar (by simp;omega)];split
  ·simp [dN,Array.toList_setIfInBounds]
  ·rename_i e3;simp [World.setCell,Array.getElem?_modify,Ne.symm e3]
theorem mf(vs:List Value):∀(w:World) (b o:Nat),(w.setCells b o vs).heap.size=w.heap.size:=by
 induction vs with
 |nil=>intro w b o;rfl
 |cons v vs e=>intro w b o;simp [World.setCells,e]
theorem mg(vs:List Value):∀(w:World) (b o:Nat),(w.setCells b o vs).os=w.os∧(w.setCells b o vs).tape=w.tape∧(w.setCells b o vs).output=w.output:=by
 induction vs with
 |nil=>intro w b o;exact⟨rfl,rfl,rfl⟩
 |cons v vs e=>intro w b o;simp only[World.setCells];exact e _ b (o+1)
theorem fI{w:World}{b o:Nat}{C:Array Value}{e:TypeId}{jt:Nat×Nat}(h:w.heap[b]? =some (.cells C e jt)):w.cell? ⟨b,o,none⟩=C[o]?:=by simp [World.cell?,h]
theorem gD{w w':World}{a:Addr}(h:w'.heap[a.block]? =w.heap[a.block]?):w'.cell? a=w.cell? a:=by simp [World.cell?,h]
theorem oG{w:World}{a:Addr}{v:Value}(h:w.cell? a=some v):a.block<w.heap.size:=by
 unfold World.cell? at h;split at h
 ·rename_i e;exact(Array.getElem?_eq_some_iff.1 e).1
 ·cases h
theorem ej.get{κ:bh}{D:Nat}{cs:List ae}{xs:List Value}(h:ej κ D cs xs){j:Nat}{c:ae}(a1:cs[j]? =some c):∃x,xs[j]? =some x∧dA κ D c x:=by
 have df:j<xs.length:=by rw[h.1];exact(eA.1 a1).1
 exact⟨xs[j],eI df,h.2 j c _ a1 (eI df)⟩
theorem ej.mono{κ κ':bh}{D:Nat}{cs:List ae}{xs:List Value}(h:ej κ D cs xs)(k:gO κ κ' D):ej κ' D cs xs:=
 ⟨h.1,fun j c x a1 a9=>(h.2 j c x a1 a9).mono k⟩
theorem ej.up{κ:bh}{D e:Nat}{cs:List ae}{xs:List Value}(h:ej κ D cs xs)(k:D≤e):ej κ e cs xs:=
 ⟨h.1,fun j c x a1 a9=>(h.2 j c x a1 a9).up k⟩
theorem ej.nil(κ:bh)(D:Nat):ej κ D [] []:=⟨rfl,fun j c x a1=>by simp at a1⟩
theorem ej.cons{κ:bh}{D:Nat}{c:ae}{x:Value}{cs:List ae}{xs:List Value}(h:dA κ D c x)(a3:ej κ D cs xs):ej κ D (c::cs) (x::xs):=by
 refine⟨by simp [a3.1],fun j nK kw a1 a9=>?_⟩;cases j with
 |zero=>simp at a1 a9;exact a1 ▸ a9 ▸ h
 |succ j=>exact a3.2 j nK kw (by simpa using a1) (by simpa using a9)
theorem ej.append{κ:bh}{D:Nat}{cs h3:List ae}{xs e:List Value}(h:ej κ D cs xs)(k:ej κ D h3 e):ej κ D (cs++h3) (xs++e):=by
 refine⟨by simp [h.1,k.1],fun j c x a1 a9=>?_⟩;by_cases df:j<cs.length
 ·rw[ha df] at a1;rw[ha (by rw[h.1];exact df)] at a9;exact h.2 j c x a1 a9
 ·rw[jW (by omega)] at a1;rw[jW (by rw[h.1];omega),h.1] at a9;exact k.2 _ c x a1 a9
theorem ej.tO{κ:bh}{D:Nat}{c:ae}{cs:List ae}{xs:List Value}(h:ej κ D (c::cs) xs):∃x e,xs=x::e∧dA κ D c x∧ej κ D cs e:=by
 cases xs with
 |nil=>have:=h.1;simp at this
 |cons x e=>exact⟨x,e,rfl,h.2 0 c x rfl rfl,by simpa using h.1,fun j nK kw a1 a9=>h.2 (j+1) nK kw (by simpa using a1) (by simpa using a9)⟩
theorem ej.drop{κ:bh}{D:Nat}{cs:List ae}{xs:List Value}(h:ej κ D cs xs)(n:Nat):ej κ D (cs.drop n) (xs.drop n):=
 ⟨by simp [h.1],fun j c x a1 a9=>h.2 (n+j) c x (by simpa using a1) (by simpa using a9)⟩
theorem ej.take{κ:bh}{D:Nat}{cs:List ae}{xs:List Value}(h:ej κ D cs xs)(n:Nat):ej κ D (cs.take n) (xs.take n):=by refine⟨by simp [h.1],fun j c x a1 a9=>?_⟩;simp only[List.getElem?_take] at a1 a9;split at a1<;> simp_all;exact h.2 j c x a1 a9
theorem ej.dN{κ:bh}{D:Nat}{cs vs:List ae}{xs e:List Value}(h:ej κ D cs xs)(k:ej κ D vs e){o:Nat}(r:o+vs.length≤cs.length):ej κ D (dN cs o vs) (Ab.dN xs o e):=by
 refine⟨by simp [fH,h.1],fun j c x a1 a9=>?_⟩;rw[gK _ _ _ r] at a1;rw[gK _ _ _ (by rw[k.1,h.1];exact r),k.1] at a9;split at a1
 ·rw[if_pos (by assumption)] at a9;exact k.2 _ _ _ a1 a9
 ·rw[if_neg (by assumption)] at a9;exact h.2 _ _ _ a1 a9
theorem ej.bb{κ:bh}{D:Nat}{cs:List ae}{xs:List Value}(h:ej κ D cs xs)(aQ:ae.a7 cs=true){κ':bh}(e:Nat)(h1:∀a v,κ.F a=some v→κ'.F a=some v):ej κ' e cs xs:=
 ⟨h.1,fun j c x a1 a9=>(h.2 j c x a1 a9).bb (iG aQ a1) e h1⟩
theorem zv.block{κ:bh}{d i:Nat}{w:World}{o:dp}{b:Nat}(h:zv κ d i w o)(r:bg κ d i o=some b):∃u,w.heap[b]? =some u:=by
 cases o with
 |cells cs=>simp only[bg,bj] at r;subst r;obtain⟨⟨C,e,jt,ar,_⟩,_⟩:=h;exact⟨_,ar⟩
 |tok n=>obtain⟨y,cap,sz,ar,_,⟨C,e,jt,av,_⟩,_⟩:=h;simp only[bg,ar,ep,bj] at r;subst r;exact⟨_,av⟩
 |map es=>simp only[bg,bj] at r;subst r;obtain⟨fi,clock,ar,_⟩:=h;exact⟨_,ar⟩
 |gone=>simp [bg] at r
theorem cY.jK{κ:bh}{s:ag}{w:World}(a3:cY κ s w){b:Nat}(h:Live κ s b):b<w.heap.size:=by obtain⟨d,i,o,e,r⟩:=h;obtain⟨y,u⟩:=(a3.obj d i o e).block r;exact(Array.getElem?_eq_some_iff.1 u).1
theorem zv.bN{κ κ':bh}{d i:Nat}{w w':World}{o:dp}(h:zv κ d i w o)(bY:i<κ.n d)(dc:gO κ κ' (d+1))(dU:∀m,κ'.lo d i m=κ.lo d i m)(u:∀b,bg κ d i o=some b→w'.heap[b]? =w.heap[b]?∧∀x,κ'.F ⟨b,x,none⟩=κ.F ⟨b,x,none⟩):
  zv κ' d i w' o∧bg κ' d i o=bg κ d i o:=by
 cases o with
 |cells cs=>obtain⟨⟨C,e,jt,ar,av,bO,y⟩,dD⟩:=h;have bK:=dc.loc d i (Nat.lt_succ_self d) bY;obtain⟨dM,r⟩:=u _ rfl;refine⟨⟨⟨C,e,jt,by rw[bK,dM,ar],av,bO.mono dc,fun m b cap sz hm=>y m b cap sz (by rw[←dU];exact hm)⟩,fun o=>by rw[bK,r,dD]⟩,by simp [bg,bK]⟩
 |tok n=>obtain⟨b,cap,sz,ar,eJ,⟨C,e,jt,av,bO,dD⟩,y,A⟩:=h;have bK:=dc.lo d i n _ (Nat.lt_succ_self d) bY ar;obtain⟨dM,r⟩:=u b (by simp [bg,ar]);exact⟨⟨b,cap,sz,bK,eJ,⟨C,e,jt,by rw[dM,av],bO,dD⟩,fun o B=>by rw[r,y o B],fun m hm=>by rw[dU,A m hm]⟩,by simp [bg,ar,bK]⟩
 |map es=>obtain⟨fi,clock,ar,av⟩:=h;have bK:=dc.loc d i (Nat.lt_succ_self d) bY;obtain⟨dM,r⟩:=u _ rfl;exact⟨⟨fi,clock,by rw[bK,dM,ar],av.mono dc⟩,by simp [bg,bK]⟩
 |gone=>exact⟨trivial,rfl⟩
theorem cY.ns{κ:bh}{s:ag}{w:World}(a3:cY κ s w){d i:Nat}{o:dp}(h:s.get (.g d i)=some o):i<κ.n d:=by
 rw[ag.mc] at h;cases bK:s.ao d with
 |none=>simp [bK] at h
 |some l=>rw[bK] at h;rw[←a3.len d l bK];exact(eA.1 h).1
theorem ag.gv{s:ag}{d i:Nat}{o:dp}(h:s.get (.g d i)=some o):d≤s.aa:=by
 rcases Nat.lt_trichotomy d s.aa with ar|ar|ar
 ·omega
 ·omega
 ·have av:d≠s.aa:=by omega
  have bO:¬d<s.aa:=by omega
  simp [ag.get,av,bO] at h
theorem cY.Fj{κ:bh}{s:ag}{w:World}(a3:cY κ s w){d i:Nat}{o:dp}(h:s.get (.g d i)=some o):d<s.aa+1∧i<κ.n d:=⟨by have:=ag.gv h;omega,a3.ns h⟩
theorem cY.world{κ κ':bh}{s:ag}{w w':World}(a3:cY κ s w)(dc:gO κ κ' (s.aa+1))(dk:κ'.n=κ.n)(dU:κ'.lo=κ.lo)(h1:∀a v,κ'.F a=some v→a.spot=none∧w'.cell? a=some v)
  (u:∀b,Live κ s b→w'.heap[b]? =w.heap[b]?∧∀x,κ'.F ⟨b,x,none⟩=κ.F ⟨b,x,none⟩):cY κ' s w':=by
 have key:∀d i o,s.get (.g d i)=some o→zv κ' d i w' o∧bg κ' d i o=bg κ d i o:=fun d i o h=>(a3.obj d i o h).bN (a3.ns h) (dc.low (by have:=ag.gv h;omega)) (fun m=>by rw[dU]) (fun b y=>u b ⟨d,i,o,h,y⟩)
 refine⟨h1,fun d l h=>by rw[dk];exact a3.len d l h,fun d i o h=>(key d i o h).1,fun d i o fG hx o' b h r e hR=>?_⟩;rw[(key d i o h).2] at e;rw[(key fG hx o' r).2] at hR;exact a3.inj d i o fG hx o' b h r e hR
def bh.freeze(κ:bh)(b gk:Nat)(C:Array Value):bh:=
 {κ with F:=fun a=>if a.block=b∧a.spot=none∧gk≤a.off∧a.off<C.size then C[a.off]? else κ.F a}
theorem nS{κ:bh}{b gk j:Nat}{C:Array Value}(h:gk≤j)(df:j<C.size):(κ.freeze b gk C).F ⟨b,j,none⟩=some C[j]:=by simp [bh.freeze,h,df]
theorem gO.freeze{κ:bh}{b gk:Nat}{C:Array Value}(e:∀j,gk≤j→κ.F ⟨b,j,none⟩=none)(D:Nat):gO κ (κ.freeze b gk C) D:=by
 refine⟨fun a v h=>?_,fun _ _=>aB _,fun _ _ _ _=>rfl,fun _ _ _ _ _ _ h=>h⟩;simp only[bh.freeze];split
 ·rename_i a1;have ar:=e a.off a1.2.2.1
  have:a=⟨b,a.off,none⟩:=by cases a;simp_all
  rw[this,ar] at h;cases h
 ·exact h
theorem cY.p8{κ:bh}{s:ag}{w:World}(a3:cY κ s w){a:Addr}(h:w.heap.size≤a.block):κ.F a=none:=by
 cases e:κ.F a with
 |none=>rfl
 |some v=>have:=oG (a3.iA a v e).2;omega
theorem cY.qE{κ:bh}{s:ag}{w w':World}(a3:cY κ s w)(C:Array Value)(e:TypeId)(jt:Nat×Nat)(hw:w'.heap=w.heap.push (.cells C e jt))(u:w'.os=w.os)(dU:w'.tape=w.tape)(hu:w'.output=w.output):
  cY (κ.freeze w.heap.size 0 C) s w'∧ft κ s w (κ.freeze w.heap.size 0 C) s w':=by
 have hold:∀b,b<w.heap.size→w'.heap[b]? =w.heap[b]?:=fun b r=>by rw[hw,Array.getElem?_push];simp [Nat.ne_of_lt r]
 have y:w'.heap[w.heap.size]? =some (.cells C e jt):=by rw[hw];simp
 have dc:∀D,gO κ (κ.freeze w.heap.size 0 C) D:=fun D=>gO.freeze (fun j _=>a3.p8 (aB _)) D
 refine⟨a3.world (dc _) rfl rfl (fun a v h=>?_) (fun b r=>⟨hold b (a3.jK r),fun x=>?_⟩),⟨dc _,rfl,by rw[hw];simp,u,dU,hu,fun b r _=>hold b r,fun b _ h=>h,fun a h=>?_⟩⟩
 ·simp only[bh.freeze] at h;split at h
  ·rename_i a1;refine⟨a1.2.1,?_⟩;have A:a=⟨w.heap.size,a.off,none⟩:=by cases a;simp_all
   rw[A,fI y];exact h
  ·obtain⟨ar,av⟩:=a3.iA a v h;exact⟨ar,by rw[gD (hold _ (oG av))];exact av⟩
 ·have:=a3.jK r;simp [bh.freeze,Nat.ne_of_lt this]
 ·simp only[bh.freeze] at h;split at h
  ·rename_i a1;exact .inr (.inl (by omega))
  ·exact .inl h
theorem cY.same{κ:bh}{s:ag}{w w':World}(a3:cY κ s w)(hw:w'.heap=w.heap)(e:w'.os=w.os)(dU:w'.tape=w.tape)(hu:w'.output=w.output):cY κ s w'∧ft κ s w κ s w':=by refine⟨a3.world (.refl _ _) rfl rfl (fun a v h=>?_) (fun b _=>⟨by rw[hw],fun _=>rfl⟩),⟨.refl _ _,rfl,by rw[hw];exact aB _,e,dU,hu,fun b _ _=>by rw[hw],fun _ _ h=>h,fun _ h=>.inl h⟩⟩;obtain⟨ar,av⟩:=a3.iA a v h;exact⟨ar,by rw[gD (w:=w) (by rw[hw])];exact av⟩
theorem ag.CN(s:ag)(o:dp):(s.new o).aa=s.aa:=rfl
theorem ag.OL(s:ag)(o:dp)(d:Nat):(s.new o).ao d=if d=s.aa then some (s.own++[o]) else s.ao d:=by
 unfold ag.ao;simp only[ag.CN];by_cases cR:d=s.aa
 ·simp [cR,ag.new]
 ·simp only[cR,↓reduceIte];rfl
structure ij (s s':ag) (d i:Nat) (o:dp):Prop where
 aa:s'.aa=s.aa
 le:d≤s.aa
 ao:∀fG,s'.ao fG=if fG=d then(s.ao fG).map (· ++ [o]) else s.ao fG
 here:∃l,s.ao d=some l∧l.length=i
theorem ij.new(s:ag)(o:dp):ij s (s.new o) s.aa s.own.length o:=by
 refine⟨rfl,aB _,fun fG=>?_,s.own,by simp [ag.ao],rfl⟩;rw[ag.OL];split
 ·rename_i h;subst h;simp [ag.ao]
 ·rfl
theorem ij.get{s s':ag}{d i:Nat}{o:dp}(h:ij s s' d i o)(fG hx:Nat):s'.get (.g fG hx)=if fG=d∧hx=i then some o else s.get (.g fG hx):=by
 rw[ag.mc,ag.mc,h.ao];obtain⟨l,ar,av⟩:=h.here;by_cases cR:fG=d
 ·subst cR;simp only[↓reduceIte,ar,ep,f0,true_and];by_cases bY:hx=i
  ·subst bY;simp [av]
  ·rw[if_neg bY];by_cases e:hx<l.length
   ·rw[ha e]
   ·rw[List.getElem?_eq_none (by simp;omega),List.getElem?_eq_none (by omega)]
 ·simp [cR]
theorem ij.by{s s':ag}{a l:Loc}{o:dp}(h:s.hd a o=some (l,s')):∃d i,l.ap s.aa=.g d i∧ij s s' d i o:=by
 cases a with
 |l j=>simp only[ag.hd,bj,eW] at h;obtain⟨rfl,rfl⟩:=h;exact⟨_,_,rfl,ij.new s o⟩
 |g d j=>
  simp only[ag.hd] at h;split at h
  ·simp only[bj,eW] at h;obtain⟨rfl,rfl⟩:=h;exact⟨_,_,rfl,ij.new s o⟩
  ·rename_i e3;split at h
   ·rename_i a1;cases bK:s.up[s.aa-1-d]? with
    |none=>rw[bK] at h;cases h
    |some se=>
     rw[bK] at h;simp only[bj,eW] at h;obtain⟨rfl,rfl⟩:=h;have hlen:s.aa=s.up.length+s.ro.length:=rfl;have r:s.aa-1-d<s.up.length:=by omega
     have A:s.ao d=some se:=by simp only[ag.ao,e3,↓reduceIte,a1.1];rw[ha r,bK]
     have y:({s with up:=s.up.modify (s.aa-1-d) (· ++ [o])}:ag).aa=s.aa:=by simp [ag.aa]
     refine⟨d,se.length,rfl,y,by omega,fun fG=>?_,se,A,rfl⟩;unfold ag.ao;rw[y];by_cases ar:fG=s.aa
     ·have:¬s.aa=d:=fun e=>e3 e.symm
      simp [ar,this]
     ·by_cases bO:fG<s.aa
      ·simp only[ar,↓reduceIte,bO];by_cases dD:fG=d
       ·subst dD;simp only[↓reduceIte];rw[ha (by simpa using r),ha r,List.getElem?_modify];simp
       ·simp only[dD,↓reduceIte];by_cases u:s.aa-1-fG<s.up.length
        ·rw[ha (by simpa using u),ha u,List.getElem?_modify];have gr:¬s.aa-1-d=s.aa-1-fG:=by omega
         simp [gr]
        ·rw[jW (by simpa using u),jW (by omega)];simp
      ·have:¬fG=d:=by omega
       simp [ar,bO,this]
   ·cases h
theorem cY.newObj{κ κ':bh}{s:ag}{w w':World}(a3:cY κ s w)(o:dp)(dc:gO κ κ' (s.aa+1)){s':ag}{B K:Nat}(y:ij s s' B K o)(dk:∀d,κ'.n d=if d=B then κ.n d+1 else κ.n d)(O:∀d i m,i<κ.n d→κ'.lo d i m=κ.lo d i m)
  (h1:κ'.F=κ.F∨∃gk C,(κ'.F=(κ.freeze w.heap.size gk C).F)∧∃L e jt,w'.heap[w.heap.size]? =some (.cells L e jt)∧∀(j:Nat) (x:Value),C[j]? =some x→L[j]? =some x)(hold:∀b,b<w.heap.size→w'.heap[b]? =w.heap[b]?)(eZ:w.heap.size≤w'.heap.size)(U:w'.os=w.os)(dU:w'.tape=w.tape)(hu:w'.output=w.output)
  (V:zv κ' B K w' o)(u:∀b,bg κ' B K o=some b→w.heap.size≤b):cY κ' s' w'∧ft κ s w κ' s' w':=by
 have Y:∀b x,b<w.heap.size→κ'.F ⟨b,x,none⟩=κ.F ⟨b,x,none⟩:=by
  intro b x u;rcases h1 with h1|⟨gk,C,h1,_⟩
  ·rw[h1]
  ·rw[h1];simp [bh.freeze,Nat.ne_of_lt u]
 have key:∀d i o,s.get (.g d i)=some o→zv κ' d i w' o∧bg κ' d i o=bg κ d i o:=fun d i o h=>(a3.obj d i o h).bN (a3.ns h) (dc.low (by have:=ag.gv h;omega)) (fun m=>O d i m (a3.ns h)) (fun b N=>by have H:=a3.jK ⟨d,i,o,h,N⟩;exact⟨hold b H,fun x=>Y b x H⟩)
 refine⟨⟨fun a v h=>?_,fun d l h=>?_,fun d i o' h=>?_,fun d i I fG hx J b h r e hR=>?_⟩,⟨dc,y.aa,eZ,U,dU,hu,fun b u _=>hold b u,fun b N bK=>?_,fun a A=>?_⟩⟩
 ·rcases h1 with h1|⟨gk,C,h1,L,e,jt,ju,Z⟩
  ·rw[h1] at h;obtain⟨ar,av⟩:=a3.iA a v h;exact⟨ar,by rw[gD (hold _ (oG av))];exact av⟩
  ·rw[h1] at h;simp only[bh.freeze] at h;split at h
   ·rename_i a1;refine⟨a1.2.1,?_⟩;have A:a=⟨w.heap.size,a.off,none⟩:=by cases a;simp_all
    rw[A,fI ju];exact Z _ _ h
   ·obtain⟨ar,av⟩:=a3.iA a v h;exact⟨ar,by rw[gD (hold _ (oG av))];exact av⟩
 ·rw[y.ao] at h;rw[dk];split at h
  ·rename_i cR;cases bt:s.ao d with
   |none=>rw[bt] at h;cases h
   |some l'=>rw[bt] at h;simp only[ep,bj] at h;rw[←h,if_pos cR,←a3.len d l' bt];simp
  ·rename_i cR;rw[if_neg cR];exact a3.len d l h
 ·rw[y.get] at h;split at h
  ·rename_i a1;obtain⟨rfl,rfl⟩:=a1;simp only[bj] at h;exact h ▸ V
  ·exact(key d i o' h).1
 ·rw[y.get] at h r;split at h
  ·rename_i a1;obtain⟨rfl,rfl⟩:=a1;simp only[bj] at h;subst h;split at r
   ·rename_i kL;exact⟨kL.1.symm,kL.2.symm⟩
   ·rw[(key fG hx J r).2] at hR
    have:=a3.jK ⟨fG,hx,J,r,hR⟩
    have:=u b e;omega
  ·split at r
   ·rename_i kL;obtain⟨rfl,rfl⟩:=kL;simp only[bj] at r;subst r;rw[(key d i I h).2] at e
    have:=a3.jK ⟨d,i,I,h,e⟩
    have:=u b hR;omega
   ·rw[(key d i I h).2] at e;rw[(key fG hx J r).2] at hR;exact a3.inj d i I fG hx J b h r e hR
 ·obtain⟨d,i,o',cB,M⟩:=bK;rw[y.get] at cB;split at cB
  ·rename_i a1;obtain⟨rfl,rfl⟩:=a1;simp only[bj] at cB;subst cB
   have:=u b M;omega
  ·rw[(key d i o' cB).2] at M;exact⟨d,i,o',cB,M⟩
 ·by_cases H:a.block<w.heap.size
  ·left
   rcases h1 with h1|⟨gk,C,h1,_⟩
   ·rwa [h1] at A
   ·rw[h1] at A;simpa [bh.freeze,Nat.ne_of_lt H] using A
  ·exact .inr (.inl (by omega))
theorem cY.oH{κ:bh}{s:ag}{w w':World}(a3:cY κ s w)(cs:List ae)(C:Array Value)(e:TypeId)(a1:ej κ (s.aa+1) cs C.toList)(hw:w'.heap=w.heap.push (.cells C e (0,0)))(u:w'.os=w.os)(dU:w'.tape=w.tape)(hu:w'.output=w.output):
  ∃κ',cY κ' (s.new (.cells cs)) w'∧ft κ s w κ' (s.new (.cells cs)) w'∧κ'.loc s.aa s.own.length=w.heap.size∧s.own.length<κ'.n s.aa:=by
 have y:s.own.length=κ.n s.aa:=a3.len s.aa s.own (by simp [ag.ao])
 let κ':bh:={κ with n:=fun d=>if d=s.aa then κ.n d+1 else κ.n d,loc:=fun d i=>if d=s.aa∧i=s.own.length then w.heap.size else κ.loc d i,lo:=fun d i m=>if d=s.aa∧i=s.own.length then none else κ.lo d i m}
 have e3:∀d i,i<κ.n d→¬(d=s.aa∧i=s.own.length):=by
  rintro d i bY ⟨rfl,rfl⟩
  omega
 have dc:gO κ κ' (s.aa+1):=by
  refine⟨fun _ _ h=>h,fun d _=>?_,fun d i _ bY=>?_,fun d i n x _ bY h=>?_⟩
  ·simp only[κ'];split<;> omega
  ·simp only[κ'];rw[if_neg (e3 d i bY)]
  ·simp only[κ'];rw[if_neg (e3 d i bY)];exact h
 have A:w'.heap[w.heap.size]? =some (.cells C e (0,0)):=by rw[hw];simp
 refine⟨κ',?_⟩
 have:=a3.newObj (κ':=κ') (w':=w') (.cells cs) dc (ij.new s _) (fun d=>rfl) (fun d i m bY=>if_neg (e3 d i bY)) (.inl rfl) (fun b r=>by rw[hw,Array.getElem?_push];simp [Nat.ne_of_lt r]) (by rw[hw];simp) u dU hu
  ⟨⟨C,e,(0,0),by simp [κ',A],fun j _=>by simp,by rw[show C.toList.take cs.length=C.toList from jr (by rw[a1.1];exact aB _)];exact a1.mono dc,fun m b cap sz h=>by simp [κ'] at h⟩,fun o=>a3.p8 (by simp [κ'])⟩ (fun b r=>by simp [bg,κ'] at r;omega)
 exact⟨this.1,this.2,by simp [κ'],by simp [κ',y]⟩
theorem ag.lf(s:ag)(a:Loc)(o:dp):s.set (a.ap s.aa) o=s.set a o:=by
 cases a with
 |l i=>simp [Loc.ap,ag.set]
 |g d i=>rfl
theorem sJ(l:List (List dp))(n i:Nat)(o:dp)(m:Nat):(l.modify n (·.set i o))[m]? =if m=n then(l[m]?).map (·.set i o) else l[m]?:=by
 rw[List.getElem?_modify];by_cases h:m=n
 ·simp [h]
 ·simp [h,Ne.symm h]
theorem ag.uu{s s':ag}{d i:Nat}{o:dp}(h:s.set (.g d i) o=some s'):s'.aa=s.aa∧∀fG,s'.ao fG=if fG=d then(s.ao fG).map (·.set i o) else s.ao fG:=by
 by_cases cR:d=s.aa
 ·simp only[ag.set,cR,↓reduceIte,bj] at h;subst h;refine⟨rfl,fun fG=>?_⟩;by_cases ar:fG=s.aa
  ·simp [ag.ao,ag.aa,ar,cR]
  ·have A:¬fG=s.up.length+s.ro.length:=ar;simp only[ag.ao,ag.aa,A,cR,↓reduceIte];rfl
 ·by_cases av:d<s.aa∧s.ro.length≤d
  ·simp only[ag.set,cR,↓reduceIte,av,and_self,bj] at h;subst h;have u:({s with up:=s.up.modify (s.aa-1-d) (·.set i o)}:ag).aa=s.aa:=by simp [ag.aa]
   refine⟨u,fun fG=>?_⟩;unfold ag.ao;rw[u];by_cases ar:fG=s.aa
   ·have:¬s.aa=d:=fun e=>cR e.symm
    simp [ar,this]
   ·by_cases bO:fG<s.aa
    ·have hlen:s.aa=s.up.length+s.ro.length:=rfl;have y:s.aa-1-d<s.up.length:=by omega
     simp only[ar,↓reduceIte,bO];by_cases dD:fG=d
     ·subst dD;simp only[↓reduceIte];rw[ha (by simpa using y),ha y,sJ];simp
     ·simp only[dD,↓reduceIte];by_cases r:s.aa-1-fG<s.up.length
      ·rw[ha (by simpa using r),ha r,sJ,if_neg (by omega)]
      ·rw[jW (by simpa using r),jW (by omega)];simp
    ·by_cases dD:fG=d
     ·exact absurd (dD ▸ av.1) bO
     ·simp [ar,bO,dD]
  ·have bO:¬(d<s.aa∧s.ro.length≤d):=av;simp [ag.set,cR,bO] at h
theorem ag.uv{s s':ag}{d i:Nat}{o u:dp}(h:s.set (.g d i) o=some s')(cB:s.get (.g d i)=some u)(fG hx:Nat):s'.get (.g fG hx)=if fG=d∧hx=i then some o else s.get (.g fG hx):=by
 rw[ag.mc,(ag.uu h).2 fG,ag.mc];by_cases cR:fG=d
 ·subst cR;rw[ag.mc] at cB;cases bt:s.ao fG with
  |none=>simp [bt] at cB
  |some l=>
   rw[bt] at cB;simp only[f0] at cB;have bY:i<l.length:=(eA.1 cB).1;simp only[↓reduceIte,ep,f0,true_and];by_cases r:hx=i
   ·subst r;simp [bY]
   ·rw[if_neg r,nm (fun e=>r e.symm)]
 ·simp [cR]
theorem cY.setObj{κ κ':bh}{s s':ag}{w w':World}(a3:cY κ s w){d i:Nat}{o o':dp}(cB:s.get (.g d i)=some o)(O:s.set (.g d i) o'=some s')(dc:gO κ κ' (s.aa+1))(dk:κ'.n=κ.n)
  (Z:∀fG hx m,¬(fG=d∧hx=i)→κ'.lo fG hx m=κ.lo fG hx m)(h1:∀a v,κ'.F a=some v→a.spot=none∧w'.cell? a=some v)
  (hold:∀b,b<w.heap.size→bg κ d i o≠some b→w'.heap[b]? =w.heap[b]?∧∀x,κ'.F ⟨b,x,none⟩=κ.F ⟨b,x,none⟩)
  (eZ:w.heap.size≤w'.heap.size)(ab:w'.os=w.os)(dU:w'.tape=w.tape)(hu:w'.output=w.output)
  (ac:zv κ' d i w' o')(B:∀b,bg κ' d i o'=some b→bg κ d i o=some b∨w.heap.size≤b):cY κ' s' w'∧ft κ s w κ' s' w':=by
 have K:=ag.uv O cB;obtain⟨ad,bZ⟩:=ag.uu O;have key:∀r u y,¬(r=d∧u=i)→s.get (.g r u)=some y→zv κ' r u w' y∧bg κ' r u y=bg κ r u y:=fun r u y e3 h=>(a3.obj r u y h).bN (a3.ns h) (dc.low (by have:=ag.gv h;omega)) (fun m=>Z r u m e3) (fun b L=>by have M:=a3.jK ⟨r,u,y,h,L⟩;exact hold b M (fun e=>e3 (a3.inj r u y d i o b h cB L e)))
 refine⟨⟨h1,fun r l h=>?_,fun r u y h=>?_,fun r u y H I J b h A e hR=>?_⟩,⟨dc,ad,eZ,ab,dU,hu,fun b B bK=>(hold b B (fun e=>bK ⟨d,i,o,cB,e⟩)).1,fun b L bK=>?_,fun a U=>?_⟩⟩
 ·rw[bZ] at h;rw[dk];split at h
  ·cases bt:s.ao r with
   |none=>simp [bt] at h
   |some l'=>rw[bt] at h;simp only[ep,bj] at h;rw[←h];simpa using a3.len r l' bt
  ·exact a3.len r l h
 ·rw[K] at h;split at h
  ·rename_i a1;obtain⟨rfl,rfl⟩:=a1;simp only[bj] at h;exact h ▸ ac
  ·rename_i a1;exact(key r u y a1 h).1
 ·rw[K] at h A;split at h
  ·rename_i a1;obtain⟨rfl,rfl⟩:=a1;simp only[bj] at h;subst h;split at A
   ·rename_i kL;exact⟨kL.1.symm,kL.2.symm⟩
   ·rename_i kL;rw[(key H I J kL A).2] at hR;rcases B b e with ar|ar
    ·obtain⟨av,bO⟩:=a3.inj H I J _ _ o b A cB hR ar;exact absurd ⟨av,bO⟩ kL
    ·have:=a3.jK ⟨H,I,J,A,hR⟩;omega
  ·rename_i a1;rw[(key r u y a1 h).2] at e;split at A
   ·rename_i kL;obtain⟨rfl,rfl⟩:=kL;simp only[bj] at A;subst A;rcases B b hR with ar|ar
    ·obtain⟨av,bO⟩:=a3.inj r u y _ _ o b h cB e ar;exact absurd ⟨av,bO⟩ a1
    ·have:=a3.jK ⟨r,u,y,h,e⟩;omega
   ·rename_i kL;rw[(key H I J kL A).2] at hR;exact a3.inj r u y H I J b h A e hR
 ·obtain⟨r,u,y,h,N⟩:=bK;rw[K] at h;split at h
  ·rename_i a1;obtain⟨rfl,rfl⟩:=a1;simp only[bj] at h;subst h;rcases B b N with ar|ar
   ·exact⟨_,_,o,cB,ar⟩
   ·omega
  ·rename_i a1;rw[(key r u y a1 h).2] at N;exact⟨r,u,y,h,N⟩
 ·by_cases M:a.block<w.heap.size
  ·by_cases V:bg κ d i o=some a.block
   ·exact .inr (.inr ⟨d,i,o,cB,V⟩)
   ·left
    cases a9:κ'.F a with
    |none=>exact absurd a9 U
    |some v=>
     have ae:=(h1 a v a9).1;have ar:=(hold a.block M V).2 a.off;have Y:a=⟨a.block,a.off,none⟩:=by cases a;simp_all
     rw[Y,←ar,←Y];exact U
  ·exact .inr (.inl (by omega))
theorem qF{α:Type}:∀(l:List α) (off:Nat) (xs:List α) (n:Nat),off+xs.length≤n→(dN l off xs).take n=dN (l.take n) off xs
 |l,off,[],n,_=>rfl
 |l,off,x::xs,n,h=>by simp only[dN];rw[qF _ _ xs n (by simp at h;omega)];congr 1;rw[List.take_set]
theorem cY.store{κ:bh}{s s':ag}{w:World}(a3:cY κ s w){d i off:Nat}{cs vs:List ae}{xs:List Value}(cB:s.get (.g d i)=some (.cells cs))(y:s.set (.g d i) (.cells (dN cs off vs))=some s')
  (bJ:ej κ (d+1) vs xs)(A:off+vs.length≤cs.length):cY κ s' (w.setCells (κ.loc d i) off xs)∧ft κ s w κ s' (w.setCells (κ.loc d i) off xs):=by
 obtain⟨⟨C,e,jt,ar,av,bO,B⟩,dD⟩:=a3.obj d i _ cB;have J:xs.length=vs.length:=bJ.1;have K:cs.length≤C.size:=by have:=bO.1;simp at this;omega
 have r:=me xs w (κ.loc d i) off C e jt ar (by omega);obtain⟨px,qG,CO⟩:=mg xs w (κ.loc d i) off;refine a3.setObj cB y (.refl _ _) rfl (fun _ _ _ _=>rfl) (fun a v h=>?_) (fun b _ u=>⟨?_,fun _=>rfl⟩) (by rw[mf];exact aB _) px qG CO ⟨⟨(dN C.toList off xs).toArray,e,jt,by rw[r];simp,by simpa [fH] using av,by simpa [fH,qF C.toList off xs cs.length (by omega)] using bO.dN bJ A,fun m b cap sz hm=>by simpa [fH] using B m b cap sz hm⟩,dD⟩ (fun b u=>.inl u)
 ·obtain⟨F,H⟩:=a3.iA a v h;refine⟨F,?_⟩;rw[gD (w:=w) ?_]
  ·exact H
  ·rw[r,if_neg];intro dM;have I:a=⟨κ.loc d i,a.off,none⟩:=by cases a;simp_all
   rw[I,dD] at h;cases h
 ·rw[r,if_neg (fun dM=>u (by simp [bg,dM]))]
theorem cY.uw{κ:bh}{s s':ag}{w:World}(a3:cY κ s w){d i:Nat}{cs:List ae}(cB:s.get (.g d i)=some (.cells cs))(u:s.set (.g d i) .gone=some s'):
  ∃C e jt,w.heap[κ.loc d i]? =some (.cells C e jt)∧ej κ (d+1) cs (C.toList.take cs.length)∧cY (κ.freeze (κ.loc d i) 0 C) s' w∧ft κ s w (κ.freeze (κ.loc d i) 0 C) s' w:=by
 obtain⟨⟨C,e,jt,ar,av,bO,_⟩,dD⟩:=a3.obj d i _ cB;refine⟨C,e,jt,ar,bO,?_⟩;refine a3.setObj cB u (gO.freeze (fun j _=>dD j) _) rfl (fun _ _ _ _=>rfl) (fun a v h=>?_) (fun b _ r=>⟨rfl,fun x=>?_⟩) (aB _) rfl rfl rfl trivial (fun b r=>by simp [bg] at r)
 ·simp only[bh.freeze] at h;split at h
  ·rename_i a1;refine⟨a1.2.1,?_⟩;have y:a=⟨κ.loc d i,a.off,none⟩:=by cases a;simp_all
   rw[y,fI ar];exact h
  ·exact a3.iA a v h
 ·simp only[bg,ne_eq,bj] at r;simp [bh.freeze,Ne.symm r]
theorem cY.OM{κ:bh}{s s':ag}{w w':World}(a3:cY κ s w){r u:Nat}(A:ij s s' r u (.map []))(hw:w'.heap=w.heap.push (.map #[] 0))(B:w'.os=w.os)(dU:w'.tape=w.tape)(hu:w'.output=w.output):
  ∃κ',cY κ' s' w'∧ft κ s w κ' s' w'∧κ'.loc r u=w.heap.size∧u<κ'.n r:=by
 have F:u=κ.n r:=by obtain⟨l,ar,av⟩:=A.here;rw[←av];exact a3.len r l ar
 let κ':bh:={κ with n:=fun d=>if d=r then κ.n d+1 else κ.n d,loc:=fun d i=>if d=r∧i=u then w.heap.size else κ.loc d i}
 have dc:gO κ κ' (s.aa+1):=by
  refine⟨fun _ _ h=>h,fun d _=>?_,fun d i _ bY=>?_,fun _ _ _ _ _ _ h=>h⟩
  ·simp only[κ'];split<;> omega
  ·simp only[κ'];rw[if_neg]
   rintro ⟨rfl,rfl⟩
   omega
 have H:w'.heap[w.heap.size]? =some (.map #[] 0):=by rw[hw];simp
 refine⟨κ',?_⟩
 have:=a3.newObj (κ':=κ') (w':=w') (.map []) dc A (fun d=>rfl) (fun _ _ _ _=>rfl) (.inl rfl) (fun b y=>by rw[hw,Array.getElem?_push];simp [Nat.ne_of_lt y]) (by rw[hw];simp) B dU hu
  ⟨#[],0,by simp [κ',H],rfl,fun j p e fp=>by simp at fp⟩ (fun b y=>by simp [bg,κ'] at y;omega)
 exact⟨this.1,this.2,by simp [κ'],by simp [κ',F]⟩
theorem cY.Fk{κ:bh}{s s':ag}{w:World}(a3:cY κ s w){d i:Nat}{es A:List (ae×ae)}{fi:Array MapEntry}{clock:Nat}(cB:s.get (.g d i)=some (.map es))(B:s.set (.g d i) (.map A)=some s')(hm:mb κ (d+1) A fi.toList):
  cY κ s' {w with heap:=w.heap.setIfInBounds (κ.loc d i) (.map fi clock)}∧ft κ s w κ s' {w with heap:=w.heap.setIfInBounds (κ.loc d i) (.map fi clock)}:=by
 obtain⟨I,J,ar,av⟩:=a3.obj d i _ cB;have F:κ.loc d i<w.heap.size:=(Array.getElem?_eq_some_iff.1 ar).1;have u:∀b,(w.heap.setIfInBounds (κ.loc d i) (.map fi clock))[b]? =if b=κ.loc d i then some (.map fi clock) else w.heap[b]?:=by
  intro b;rw[Array.getElem?_setIfInBounds];by_cases r:κ.loc d i=b
  ·subst r;simp [F]
  ·have:¬b=κ.loc d i:=fun e=>r e.symm
   simp [r,this]
 refine a3.setObj (w':={w with heap:=w.heap.setIfInBounds (κ.loc d i) (.map fi clock)}) cB B (.refl _ _) rfl (fun _ _ _ _=>rfl) (fun a v h=>?_) (fun b _ r=>⟨?_,fun _=>rfl⟩) (by simp) rfl rfl rfl ⟨fi,clock,by simp [u],hm⟩ (fun b r=>.inl r)
 ·obtain⟨H,y⟩:=a3.iA a v h;refine⟨H,?_⟩;rw[gD (w:=w) ?_]
  ·exact y
  ·show(w.heap.setIfInBounds _ _)[_]? =_;rw[u,if_neg];intro dM
   have:w.cell? a=none:=by simp [World.cell?,dM,ar]
   rw[this] at y;cases y
 ·show(w.heap.setIfInBounds _ _)[_]? =_;rw[u,if_neg (fun dM=>r (by simp [bg,dM]))]
theorem cY.Fl{κ:bh}{s:ag}{w w':World}(a3:cY κ s w){s':ag}{r u:Nat}(C:Array Value)(e:TypeId)(n sz cap:Nat)(A:ij s s' r u (.tok n))(ju:C.size=cap*sz)(dk:n≤cap)(hw:w'.heap=w.heap.push (.cells C e (0,0)))(I:w'.os=w.os)(dU:w'.tape=w.tape)(hu:w'.output=w.output):
  ∃κ',cY κ' s' w'∧ft κ s w κ' s' w'∧u<κ'.n r∧κ'.lo r u n=some (⟨w.heap.size,0,none⟩,cap,sz)∧∀j,j<n*sz→κ'.F ⟨w.heap.size,j,none⟩=C[j]?:=by
 have J:u=κ.n r:=by obtain⟨l,ar,av⟩:=A.here;rw[←av];exact a3.len r l ar
 have hle:n*sz≤C.size:=by rw[ju];exact fO _ dk
 have B:((C.toList.take (n*sz)).toArray).size=n*sz:=by simp;omega
 let κ':bh:={(κ.freeze w.heap.size 0 (C.toList.take (n*sz)).toArray) with n:=fun d=>if d=r then κ.n d+1 else κ.n d,lo:=fun d i m=>if d=r∧i=u then(if m=n then some (⟨w.heap.size,0,none⟩,cap,sz) else none) else κ.lo d i m}
 have dc:gO κ κ' (s.aa+1):=by
  refine⟨fun a v h=>?_,fun d _=>?_,fun _ _ _ _=>rfl,fun d i m x _ bY h=>?_⟩
  ·exact(gO.freeze (fun j _=>a3.p8 (aB _)) (s.aa+1)).F a v h
  ·simp only[κ'];split<;> omega
  ·simp only[κ'];rw[if_neg]
   ·exact h
   ·rintro ⟨rfl,rfl⟩;omega
 have H:w'.heap[w.heap.size]? =some (.cells C e (0,0)):=by rw[hw];simp
 have K:∀j,j<n*sz→κ'.F ⟨w.heap.size,j,none⟩=C[j]?:=by intro j df;simp only[κ',bh.freeze];rw[if_pos (⟨trivial,trivial,Nat.zero_le _,by rw[B];exact df⟩:True∧True∧0≤j∧j<((C.toList.take (n*sz)).toArray).size)];simp [df]
 have hold:∀b,b<w.heap.size→w'.heap[b]? =w.heap[b]?:=fun b y=>by rw[hw,Array.getElem?_push];simp [Nat.ne_of_lt y]
 refine⟨κ',?_⟩;have main:=a3.newObj (κ':=κ') (w':=w') (.tok n) dc A (fun d=>rfl) (fun d i m bY=>?_) ?h1 hold (by rw[hw];simp) I dU hu
  ⟨w.heap.size,cap,sz,by simp [κ'],dk,⟨C,e,(0,0),H,ju,fun j _=>by simp⟩,fun o ar=>?_,fun m hm=>?_⟩ (fun b y=>?_)
 case h1=>exact .inr ⟨0,(C.toList.take (n*sz)).toArray,rfl,C,e,(0,0),H,fun j x a9=>by
  rw[List.getElem?_toArray,List.getElem?_take] at a9;split at a9
  ·simpa using a9
  ·cases a9⟩
 ·exact⟨main.1,main.2,by simp [κ',J],by simp [κ'],K⟩
 ·simp only[κ'];rw[if_neg]
  rintro ⟨rfl,rfl⟩
  omega
 ·simp only[κ',bh.freeze];rw[if_neg (by intro h;have:=h.2.2.2;rw[B] at this;omega)];exact a3.p8 (aB _)
 ·simp only[κ'];rw[if_pos (by simp),if_neg (by omega)]
 ·simp [bg,κ'] at y;omega
theorem cY.JI{κ:bh}{s s':ag}{w:World}(a3:cY κ s w){d i n m b cap sz:Nat}(cB:s.get (.g d i)=some (.tok n))(B:κ.lo d i n=some (⟨b,0,none⟩,cap,sz))(O:s.set (.g d i) (.tok m)=some s')
  (U:n<m)(hm:m≤cap)(xs:List Value)(a9:xs.length=(m-n)*sz):
  ∃κ',cY κ' s' (w.setCells b (n*sz) xs)∧ft κ s w κ' s' (w.setCells b (n*sz) xs)∧κ'.lo d i m=some (⟨b,0,none⟩,cap,sz)∧∀j x,xs[j]? =some x→κ'.F ⟨b,n*sz+j,none⟩=some x:=by
 obtain⟨I,Z,ab,ar,eJ,⟨C,e,jt,av,bO,dD⟩,J,K⟩:=a3.obj d i _ cB;rw[B] at ar;simp only[bj,eW,Addr.mk.injEq,and_true] at ar;obtain⟨rfl,rfl,rfl⟩:=ar;obtain⟨ac,ad⟩:=a3.Fj cB;have hmul:n*sz+(m-n)*sz=m*sz:=by rw[←e5];congr 1;omega
 have hle:m*sz≤C.size:=by rw[bO];exact fO _ hm
 have u:=me xs w b (n*sz) C e jt av (by omega);obtain⟨px,qG,CO⟩:=mg xs w b (n*sz)
 let E:Array Value:=((dN C.toList (n*sz) xs).take (m*sz)).toArray
 have bo:E.size=m*sz:=by simp [E,fH];omega
 have L:∀j,n*sz≤j→j<m*sz→E[j]? =xs[j-n*sz]?:=by intro j df ux;simp only[E,List.getElem?_toArray,List.getElem?_take,ux,↓reduceIte];rw[gK _ _ _ (by simp;omega),if_pos ⟨df,by omega⟩]
 let κ':bh:={(κ.freeze b (n*sz) E) with lo:=fun fG hx jg=>if fG=d∧hx=i∧jg=m then some (⟨b,0,none⟩,cap,sz) else κ.lo fG hx jg}
 have dc:gO κ κ' (s.aa+1):=by
  refine⟨fun a v h=>(gO.freeze (fun j df=>J j df) (s.aa+1)).F a v h,fun _ _=>aB _,fun _ _ _ _=>rfl,fun fG hx jg x _ _ h=>?_⟩;simp only[κ'];split
  ·rename_i a1;obtain⟨rfl,rfl,rfl⟩:=a1;rw[K _ U] at h;cases h
  ·exact h
 have h1:∀a v,κ'.F a=some v→a.spot=none∧(w.setCells b (n*sz) xs).cell? a=some v:=by
  intro a v h;simp only[κ',bh.freeze] at h;split at h
  ·rename_i a1;obtain⟨ae,V,M,N⟩:=a1;rw[bo] at N;refine⟨V,?_⟩;have y:a=⟨b,a.off,none⟩:=by cases a;simp_all
   rw[y,fI (by rw[u,if_pos rfl])];rw[L _ M N] at h;rw[List.getElem?_toArray,gK _ _ _ (by simp;omega),if_pos ⟨M,by omega⟩];exact h
  ·obtain⟨H,r⟩:=a3.iA a v h;refine⟨H,?_⟩;by_cases Y:a.block=b
   ·have y:a=⟨b,a.off,none⟩:=by cases a;simp_all
    have af:a.off<n*sz:=by
     rcases Nat.lt_or_ge a.off (n*sz) with q|q
     ·exact q
     ·rw[y,J _ q] at h;cases h
    rw[y,fI av] at r;rw[y,fI (by rw[u,if_pos rfl]),List.getElem?_toArray,gK _ _ _ (by simp;omega),if_neg (by omega)];simpa using r
   ·rw[gD (w:=w) (by rw[u,if_neg Y])];exact r
 refine⟨κ',?_⟩;have main:=a3.setObj (κ':=κ') (w':=w.setCells b (n*sz) xs) cB O dc rfl (fun fG hx jg e3=>?_) h1 (fun I _ A=>⟨?_,fun x=>?_⟩) (by rw[mf];exact aB _) px qG CO
  ⟨b,cap,sz,by simp [κ'],hm,⟨(dN C.toList (n*sz) xs).toArray,e,jt,by rw[u];simp,by simp [fH,bO],by simpa [fH] using dD⟩,fun o ah=>?_,fun jg ai=>?_⟩ (fun I A=>?_)
 ·refine⟨main.1,main.2,by simp [κ'],fun j x df=>?_⟩;have aj:j<xs.length:=(eA.1 df).1;have H:n*sz≤n*sz+j:=Nat.le_add_right _ _;have r:n*sz+j<m*sz:=by omega
  simp only[κ',bh.freeze];rw[if_pos (⟨trivial,trivial,H,by rw[bo];exact r⟩:True∧True∧n*sz≤n*sz+j∧n*sz+j<E.size),L _ H r,Nat.add_sub_cancel_left,df]
 ·simp only[κ'];rw[if_neg]
  rintro ⟨rfl,rfl,_⟩
  exact e3 ⟨rfl,rfl⟩
 ·rw[u,if_neg]
  rintro rfl
  exact A (by simp [bg,B])
 ·have:I≠b:=by rintro rfl;exact A (by simp [bg,B])
  simp [κ',bh.freeze,this]
 ·simp only[κ',bh.freeze];rw[if_neg]
  ·exact J o (by omega)
  ·rintro ⟨_,_,_,q⟩
   rw[bo] at q;omega
 ·simp only[κ'];rw[if_neg (by omega)];exact K jg (by omega)
 ·left
  simp [bg,κ'] at A;simp [bg,B,A]
theorem cY.JJ{κ:bh}{s s':ag}{w w':World}(a3:cY κ s w){d i n m:Nat}(cB:s.get (.g d i)=some (.tok n))(J:s.set (.g d i) (.tok m)=some s')(K:n<m)
  (C:Array Value)(e:TypeId)(cap sz:Nat)(ju:C.size=cap*sz)(hm:m≤cap)(hw:w'.heap=w.heap.push (.cells C e (0,0)))(L:w'.os=w.os)(dU:w'.tape=w.tape)(hu:w'.output=w.output):
  ∃κ',cY κ' s' w'∧ft κ s w κ' s' w'∧κ'.lo d i m=some (⟨w.heap.size,0,none⟩,cap,sz)∧∀j,j<m*sz→κ'.F ⟨w.heap.size,j,none⟩=C[j]?:=by
 obtain⟨b,Y,Z,ar,eJ,⟨ab,hR,ac,av,bO,dD⟩,ad,y⟩:=a3.obj d i _ cB;obtain⟨ae,af⟩:=a3.Fj cB;have hle:m*sz≤C.size:=by rw[ju];exact fO _ hm
 have u:((C.toList.take (m*sz)).toArray).size=m*sz:=by simp;omega
 have hold:∀b,b<w.heap.size→w'.heap[b]? =w.heap[b]?:=fun b M=>by rw[hw,Array.getElem?_push];simp [Nat.ne_of_lt M]
 have A:w'.heap[w.heap.size]? =some (.cells C e (0,0)):=by rw[hw];simp
 let κ':bh:={(κ.freeze w.heap.size 0 (C.toList.take (m*sz)).toArray) with lo:=fun fG hx jg=>if fG=d∧hx=i∧jg=m then some (⟨w.heap.size,0,none⟩,cap,sz) else κ.lo fG hx jg}
 have dc:gO κ κ' (s.aa+1):=by
  refine⟨fun a v h=>(gO.freeze (fun j df=>a3.p8 (aB _)) (s.aa+1)).F a v h,fun _ _=>aB _,fun _ _ _ _=>rfl,fun fG hx jg x _ _ h=>?_⟩;simp only[κ'];split
  ·rename_i a1;obtain⟨rfl,rfl,rfl⟩:=a1;rw[y _ K] at h;cases h
  ·exact h
 have N:∀j,j<m*sz→κ'.F ⟨w.heap.size,j,none⟩=C[j]?:=by intro j df;simp only[κ',bh.freeze];rw[if_pos (⟨trivial,trivial,Nat.zero_le _,by rw[u];exact df⟩:True∧True∧0≤j∧j<((C.toList.take (m*sz)).toArray).size)];simp [df]
 refine⟨κ',?_⟩;have main:=a3.setObj (κ':=κ') (w':=w') cB J dc rfl (fun fG hx jg e3=>?_) (fun a v h=>?_) (fun B r _=>⟨hold B r,fun x=>?_⟩) (by rw[hw];simp) L dU hu
  ⟨w.heap.size,cap,sz,by simp [κ'],hm,⟨C,e,(0,0),A,ju,fun j _=>by simp⟩,fun o ah=>?_,fun jg ai=>?_⟩ (fun B r=>?_)
 ·exact⟨main.1,main.2,by simp [κ'],N⟩
 ·simp only[κ'];rw[if_neg]
  rintro ⟨rfl,rfl,_⟩
  exact e3 ⟨rfl,rfl⟩
 ·simp only[κ',bh.freeze] at h;split at h
  ·rename_i a1;obtain⟨aj,O,ak,H⟩:=a1;rw[u] at H;refine⟨O,?_⟩;have U:a=⟨w.heap.size,a.off,none⟩:=by cases a;simp_all
   rw[U,fI A];rw[List.getElem?_toArray,List.getElem?_take] at h;simpa [H] using h
  ·obtain⟨V,I⟩:=a3.iA a v h;exact⟨V,by rw[gD (hold _ (oG I))];exact I⟩
 ·simp [κ',bh.freeze,Nat.ne_of_lt r]
 ·simp only[κ',bh.freeze];rw[if_neg (by intro h;have:=h.2.2.2;rw[u] at this;omega)];exact a3.p8 (aB _)
 ·simp only[κ'];rw[if_neg (by omega)];exact y jg (by omega)
 ·right
  simp [bg,κ'] at r;omega
def ag.push(s:ag):ag:={own:=[],up:=s.own::s.up,ro:=s.ro}
theorem ag.iX(s:ag):s.push.aa=s.aa+1:=by simp [ag.push,ag.aa];omega
theorem ag.qH(s:ag)(d:Nat):s.push.ao d=if d=s.aa+1 then some [] else s.ao d:=by
 unfold ag.ao;rw[ag.iX];by_cases ar:d=s.aa+1
 ·simp [ar,ag.push]
 ·simp only[ar,↓reduceIte];by_cases av:d=s.aa
  ·simp [av,ag.push]
  ·by_cases bO:d<s.aa
   ·have dD:d<s.aa+1:=by omega
    simp only[av,bO,dD,↓reduceIte,ag.push];rw[show s.aa+1-1-d=(s.aa-1-d)+1 by omega,List.cons_append,List.getElem?_cons_succ]
   ·have dD:¬d<s.aa+1:=by omega
    simp [av,bO,dD]
theorem ag.nt(s:ag)(d i:Nat):s.push.get (.g d i)=s.get (.g d i):=by
 rw[ag.mc,ag.mc,ag.qH];by_cases h:d=s.aa+1
 ·subst h;have ar:s.ao (s.aa+1)=none:=by
   have q:¬s.aa+1<s.aa:=by omega
   simp [ag.ao,q]
  simp [ar]
 ·simp [h]
theorem cY.push{κ:bh}{s:ag}{w:World}(a3:cY κ s w):∃κ',cY κ' s.push w∧gO κ κ' (s.aa+1)∧κ'.F=κ.F∧∀d i o,s.get (.g d i)=some o→bg κ' d i o=bg κ d i o:=by
 refine⟨{κ with n:=fun d=>if d=s.aa+1 then 0 else κ.n d},?_⟩;have dc:gO κ {κ with n:=fun d=>if d=s.aa+1 then 0 else κ.n d} (s.aa+1):=by refine⟨fun _ _ h=>h,fun d cR=>?_,fun _ _ _ _=>rfl,fun _ _ _ _ _ _ h=>h⟩;simp only;rw[if_neg (by omega)];exact aB _
 have key:∀d i o,s.get (.g d i)=some o→zv {κ with n:=fun d=>if d=s.aa+1 then 0 else κ.n d} d i w o∧bg {κ with n:=fun d=>if d=s.aa+1 then 0 else κ.n d} d i o=bg κ d i o:=fun d i o h=>(a3.obj d i o h).bN (a3.ns h) (dc.low (by have:=ag.gv h;omega)) (fun m=>rfl) (fun b _=>⟨rfl,fun _=>rfl⟩)
 refine⟨⟨a3.iA,fun d l h=>?_,fun d i o h=>?_,fun d i o fG hx o' b h r e hR=>?_⟩,dc,rfl,fun d i o h=>(key d i o h).2⟩
 ·rw[ag.qH] at h;split at h
  ·rename_i cR;simp only[bj] at h;simp [←h,cR]
  ·rename_i cR;simp only[cR,↓reduceIte];exact a3.len d l h
 ·rw[ag.nt] at h;exact(key d i o h).1
 ·rw[ag.nt] at h r;rw[(key d i o h).2] at e;rw[(key fG hx o' r).2] at hR;exact a3.inj d i o fG hx o' b h r e hR
theorem ag.uy{s:ag}{own:List dp}{up:List (List dp)}(h:s.up=own::up):({own,up,ro:=s.ro}:ag).push= {s with own:=[]}:=by simp [ag.push,h]
theorem ag.qI{s:ag}{own:List dp}{up:List (List dp)}(h:s.up=own::up){d i:Nat}{o:dp}(cB:({own,up,ro:=s.ro}:ag).get (.g d i)=some o):s.get (.g d i)=some o:=by
 have cR:=ag.gv cB;rw[←ag.nt,ag.uy h] at cB;have r:s.aa=({own,up,ro:=s.ro}:ag).aa+1:=by simp [ag.aa,h];omega
 have e3:d≠s.aa:=by omega
 unfold ag.get at cB ⊢;have e:({s with own:=[]}:ag).aa=s.aa:=rfl;rw[e] at cB;simp only[e3,↓reduceIte] at cB ⊢;exact cB
theorem cY.pop{κ:bh}{s:ag}{w:World}(a3:cY κ s w){own:List dp}{up:List (List dp)}(h:s.up=own::up):cY κ {own,up,ro:=s.ro} w:=by
 refine⟨a3.iA,fun d l cR=>?_,fun d i o cB=>a3.obj d i o (ag.qI h cB),fun d i o fG hx o' b cB r=>a3.inj d i o fG hx o' b (ag.qI h cB) (ag.qI h r)⟩;have A:s.aa=({own,up,ro:=s.ro}:ag).aa+1:=by simp [ag.aa,h];omega
 have B:d≤({own,up,ro:=s.ro}:ag).aa:=by
  rcases Nat.lt_or_ge ({own,up,ro:=s.ro}:ag).aa d with q|q
  ·have u:d≠({own,up,ro:=s.ro}:ag).aa:=by omega
   have y:¬d<({own,up,ro:=s.ro}:ag).aa:=by omega
   simp [ag.ao,u,y] at cR
  ·exact q
 have q:({own,up,ro:=s.ro}:ag).push.ao d=some l:=by rw[ag.qH,if_neg (by omega)];exact cR
 rw[ag.uy h] at q;refine a3.len d l ?_;unfold ag.ao at q ⊢;have e:({s with own:=[]}:ag).aa=s.aa:=rfl;rw[e] at q;have e3:d≠s.aa:=by omega
 simp only[e3,↓reduceIte] at q ⊢;exact q
theorem cY.empty{κ:bh}{s:ag}{w:World}(a3:cY κ s w):cY {κ with n:=fun _=>0} {own:=[],up:=[],ro:=[]} w:=by
 have e:∀d i,({own:=[],up:=[],ro:=[]}:ag).get (.g d i)=none:=by intro d i;simp [ag.get]
 refine⟨a3.iA,fun d l h=>?_,fun d i o h=>?_,fun d i o fG hx o' b h=>?_⟩
 ·unfold ag.ao at h;simp at h;simp [h]
 ·rw[e] at h;cases h
 ·rw[e] at h;cases h
def uz:List ae→e2→Value→Bool
 |[],.nil,.slice none 0 0=>true
 |_,_,_=>false
theorem uA{es:List ae}{g:e2}{x:Value}(h:uz es g x=true):es=[]∧g=.nil∧x=.slice none 0 0:=by
 unfold uz at h;split at h
 ·exact⟨rfl,rfl,rfl⟩
 ·cases h
def x6:Value→Bool
 |.pointer none=>true
 |_=>false
theorem wu{x:Value}(h:x6 x=true):x=.pointer none:=by
 unfold x6 at h;split at h
 ·rfl
 ·cases h
def x7:Value→Bool
 |.map none=>true
 |_=>false
theorem wv{x:Value}(h:x7 x=true):x=.map none:=by
 unfold x7 at h;split at h
 ·rfl
 ·cases h
mutual
def hg:ae→Value→Bool
 |.bool a,.bool b=>a==b
 |.int k a,.int lz b=>decide (k=lz)&&a==b
 |.str fb,.string s=>fb==s.data.toList.map UInt8.toNat
 |.cr _ es g,x=>uz es g x
 |.hE,x=>x6 x
 |.hT,.nilFunc=>true
 |.fe,x=>x7 x
 |.hF,.nilIface=>true
 |.agg cs,.agg xs=>mJ cs xs.toList
 |.eb [],.tuple xs=>xs.size==0
 |_,_=>false
def mJ:List ae→List Value→Bool
 |[],[]=>true
 |c::cs,x::xs=>hg c x&&mJ cs xs
 |_,_=>false
end
mutual
theorem nT:∀(v:ae) (x:Value),hg v x=true→(∀κ D,dA κ D v x)∧v.bb=true
 |.bool a,x,h=>by cases x<;> simp [hg] at h;subst h;exact⟨fun _ _=>.bool a,rfl⟩
 |.int k a,x,h=>by cases x<;> simp [hg] at h;obtain⟨rfl,rfl⟩:=h;exact⟨fun _ _=>.int k a,rfl⟩
 |.str fb,x,h=>by cases x<;> simp [hg] at h;exact⟨fun _ _=>.str fb _ h.symm,rfl⟩
 |.cr sz es g,x,h=>by simp only[hg] at h;obtain⟨rfl,rfl,rfl⟩:=uA h;exact⟨fun _ _=>.kI sz,rfl⟩
 |.hE,x,h=>by simp only[hg] at h;rw[wu h];exact⟨fun _ _=>.hE,rfl⟩
 |.hT,x,h=>by cases x<;> simp [hg] at h;exact⟨fun _ _=>.hT,rfl⟩
 |.fe,x,h=>by simp only[hg] at h;rw[wv h];exact⟨fun _ _=>.fe,rfl⟩
 |.hF,x,h=>by cases x<;> simp [hg] at h;exact⟨fun _ _=>.hF,rfl⟩
 |.agg cs,x,h=>by cases x<;> simp [hg] at h;rename_i xs;obtain⟨ar,av⟩:=m6 cs xs.toList h;exact⟨fun κ D=>by simpa using dA.agg cs xs.toList (ar κ D).1 (ar κ D).2,by simpa [ae.bb] using av⟩
 |.eb cs,x,h=>by
  cases cs with
  |nil=>cases x<;> simp [hg] at h;rename_i xs;subst h;exact⟨fun κ D=>.eb [] [] rfl (fun j c x a1=>by simp at a1),rfl⟩
  |cons c cs=>cases x<;> simp [hg] at h
 |.dead,x,h=>by cases x<;> simp [hg] at h
 |.cZ ..,x,h=>by cases x<;> simp [hg] at h
 |.ref ..,x,h=>by cases x<;> simp [hg] at h
 |.bP ..,x,h=>by cases x<;> simp [hg] at h
 |.fn ..,x,h=>by cases x<;> simp [hg] at h
 |.map ..,x,h=>by cases x<;> simp [hg] at h
 |.iface ..,x,h=>by cases x<;> simp [hg] at h
theorem m6:∀(cs:List ae) (xs:List Value),mJ cs xs=true→(∀κ D,ej κ D cs xs)∧ae.a7 cs=true
 |[],[],_=>⟨fun κ D=>.nil κ D,rfl⟩
 |[],x::xs,h=>by simp [mJ] at h
 |c::cs,[],h=>by simp [mJ] at h
 |c::cs,x::xs,h=>by simp only[mJ,bm] at h;obtain⟨ar,av⟩:=nT c x h.1;obtain⟨bO,dD⟩:=m6 cs xs h.2;exact⟨fun κ D=>.cons (ar κ D) (bO κ D),by simp [ae.a7,av,dD]⟩
end
def cD:bB→Operand→Bool
 |.t n,.tmp m=>n==m
 |.c v,.const x=>hg v x
 |.c (.fn f []),.func g=>f==g
 |.g n,.global m=>n==m
 |.at n _ _,.tmp m=>n==m
 |_,_=>false
def dx:List bB→List Operand→Bool
 |[],[]=>true
 |x::xs,y::e=>cD x y&&dx xs e
 |_,_=>false
def fu:Option bB→Option Operand→Bool
 |none,none=>true
 |some x,some y=>cD x y
 |_,_=>false
def j9(κ:bh)(G:Nat→ae):Prop:=∀n,dA κ 0 (G n) (.pointer (some ⟨n,0,none⟩))∧(G n).bb=true
theorem j9.mono{κ κ':bh}{G:Nat→ae}(h:j9 κ G){D:Nat}(k:gO κ κ' D):j9 κ' G:=fun n=>⟨(h n).1.mono (k.low (Nat.zero_le D)),(h n).2⟩
theorem bq{κ:bh}{s:ag}{ao:Nat→ae}{a:Act}{G:Nat→ae}(bt:wl κ s ao a)(dS:j9 κ G){x:bB}{y:Operand}(h:cD x y=true):dA κ (s.aa+1) ((aq G ao x).ap s.aa) (a.eval y):=by
 cases x with
 |t n=>cases y<;> simp [cD] at h;subst h;exact bt n
 |c v=>
  cases y with
  |const x=>
   have r:hg v x=true:=by cases v<;> simpa [cD] using h
   obtain⟨ar,av⟩:=nT v x r;simp only[aq,jf av,Act.eval];exact ar _ _
  |func g=>
   cases v<;> simp [cD] at h;rename_i f dC;cases dC with
   |nil=>simp [cD] at h;subst h;exact .fn f [] [] rfl (fun j c x a1=>by simp at a1)
   |cons c cs=>simp [cD] at h
  |tmp m=>cases v<;> simp [cD] at h
  |global m=>cases v<;> simp [cD] at h
 |g n=>cases y<;> simp [cD] at h;subst h;obtain⟨ar,av⟩:=dS n;simp only[aq,jf av,Act.eval];exact ar.up (Nat.zero_le _)
 | «at» n b off=>
  cases y<;> simp [cD] at h;subst h;simp only[aq];rcases Fi (ao n) (ao b) off with e|⟨e,_⟩
  ·rw[e];exact .dead _
  ·rw[e];exact bt n
 |OJ b off=>cases y<;> simp [cD] at h
section
variable{κ:bh}{D:Nat}{x:Value}
theorem dA.ew{k:IntKind}{n:Int}(h:dA κ D (.int k n) x):x=.int k n:=by cases h;rfl
theorem dA.gT{b:Bool}(h:dA κ D (.bool b) x):x=.bool b:=by cases h;rfl
theorem dA.h4{fb:List Nat}(h:dA κ D (.str fb) x):∃s,x=.string s∧s.data.toList.map UInt8.toNat=fb:=by cases h;exact⟨_,rfl,by assumption⟩
theorem dA.mh{cs:List ae}(h:dA κ D (.agg cs) x):∃xs:List Value,x=.agg xs.toArray∧ej κ D cs xs:=by cases h;exact⟨_,rfl,by assumption,by assumption⟩
theorem dA.uB{cs:List ae}(h:dA κ D (.eb cs) x):∃xs:List Value,x=.tuple xs.toArray∧ej κ D cs xs:=by cases h;exact⟨_,rfl,by assumption,by assumption⟩
theorem dA.tP{f:Nat}{cs:List ae}(h:dA κ D (.fn f cs) x):∃xs:List Value,x=.func (.func f) #[] xs.toArray∧ej κ D cs xs:=by cases h;exact⟨_,rfl,by assumption,by assumption⟩
theorem dA.sf{cs:List ae}(h:dA κ D (.bP cs) x):∃(a:Addr) (dr:Nat→Value),x=.pointer (some a)∧a.spot=none∧(∀j,j<cs.length→κ.F (a.add j)=some (dr j))∧∀(j:Nat) (c:ae),cs[j]? =some c→dA κ D c (dr j):=by cases h;exact⟨_,_,rfl,by assumption,by assumption,by assumption⟩
theorem dA.mi{d i off:Nat}(h:dA κ D (.ref (.g d i) off) x):x=.pointer (some ⟨κ.loc d i,off,none⟩)∧d<D∧i<κ.n d:=by cases h;exact⟨rfl,by assumption,by assumption⟩
theorem dA.jL{d i off len cap sz:Nat}(h:dA κ D (.cZ (.g d i) off len cap sz) x):∃lE,x=.slice (some ⟨κ.loc d i,off,none⟩) len lE∧d<D∧i<κ.n d∧len≤lE∧(lE=cap∨(cap=0∧0<len∧off=0∧κ.lo d i len=some (⟨κ.loc d i,0,none⟩,lE,sz))):=by cases h;exact⟨_,rfl,by assumption,by assumption,by assumption,by assumption⟩
theorem dA.Il{d i off len cap sz:Nat}(h:dA κ D (.cZ (.g d i) off len cap sz) x)(bK:len≤cap):x=.slice (some ⟨κ.loc d i,off,none⟩) len cap∧d<D∧i<κ.n d:=by
 obtain⟨lE,rfl,ar,av,bO,dD⟩:=h.jL;rcases dD with rfl |⟨e,r,_⟩
 ·exact⟨rfl,ar,av⟩
 ·omega
theorem dA.CP{t:Nat}{v:ae}(h:dA κ D (.iface t v) x):∃y,x=.iface t y∧dA κ D v y:=by cases h;exact⟨_,rfl,by assumption⟩
end
theorem dA.cells{κ:bh}{D:Nat}{v:ae}{x:Value}(h:dA κ D v x)(bJ:v.ff=true):ej κ D v.cells x.cells.toList:=by
 cases h<;> simp [ae.ff] at bJ<;> simp only[ae.cells,Value.cells]
 case agg cs xs bK e=>exact⟨by simpa using bK,by simpa using e⟩
 all_goals
  refine .cons ?_ (.nil _ _)
  first
   |exact .bool _|exact .int _ _|exact .str _ _ (by assumption)|exact .kI _
   |exact .cr _ _ _ _ _ _ (by assumption) (by assumption) (by assumption) (by assumption) (by assumption) (by assumption) (by assumption)
   |exact .cZ _ _ _ _ _ _ _ (by assumption) (by assumption) (by assumption) (by assumption)|exact .ref _ _ _ (by assumption) (by assumption)
   |exact .bP _ _ _ (by assumption) (by assumption) (by assumption)|exact .hE|exact .fn _ _ _ (by assumption) (by assumption)
   |exact .hT|exact .j8 _|exact .fe|exact .map _ _ (by assumption) (by assumption)|exact .iface _ _ _ (by assumption)|exact .hF
theorem uC(v:ae)(d:Nat):(v.ap d).ff=v.ff:=by cases v<;> rfl
theorem dA.JK{κ:bh}{D:Nat}{v:ae}{x:Value}(h:dA κ D v x)(bJ:v.eG=true):x.oneCell'=true:=by cases h<;> simp [ae.eG] at bJ<;> rfl
theorem bytes_inj{a b:List UInt8}(h:a.map UInt8.toNat=b.map UInt8.toNat):a=b:=by have:=List.map_inj_right (f:=UInt8.toNat) (l:=a) (l':=b) (fun x y e=>UInt8.toNat_inj.1 e);exact this.1 h
theorem x8(a b:List UInt8):(a.map UInt8.toNat==b.map UInt8.toNat)=(a==b):=by rw[Bool.eq_iff_iff];simp only[beq_iff_eq];exact⟨bytes_inj,fun h=>by rw[h]⟩
theorem oI:∀(a b:List UInt8),jF (a.map UInt8.toNat) (b.map UInt8.toNat)=Op.bytesLess a b
 |_,[]=>by simp [jF,Op.bytesLess]
 |[],_::_=>by simp [jF,Op.bytesLess]
 |a::x,b::y=>by
  simp only[gd,jF,Op.bytesLess,oI x y];have ar:Nat.blt a.toNat b.toNat=decide (a<b):=by rw[Bool.eq_iff_iff];simp [Nat.blt_eq,UInt8.lt_iff_toNat_lt]
  have av:Nat.beq a.toNat b.toNat=(a==b):=by rw[Bool.eq_iff_iff];simp [Nat.beq_eq,UInt8.toNat_inj]
  rw[ar,av]
def dK(P:Program)(o:Op)(ty:TypeId)(ρ:Operand→Value)(κ:bh)(s:ag)(w:World)(v:ae)(s':ag):Prop:=
 ∃x κ' w',((∀dst pos after guard,(execOp ρ ⟨dst,o,ty,pos,after,guard⟩).run P w=.ok (.value x) w')∨((∀dst pos after guard,(execOp ρ ⟨dst,o,ty,pos,after,guard⟩).run P w=.ok .skip w')∧x=undef))∧
  ft κ s w κ' s' w'∧cY κ' s' w'∧dA κ' (s.aa+1) (v.ap s.aa) x
theorem bE{P:Program}{o:Op}{ty:TypeId}{ρ:Operand→Value}{κ:bh}{s:ag}{w:World}{v:ae}(a3:cY κ s w)(x:Value)
  (h:∀dst pos after guard,(execOp ρ ⟨dst,o,ty,pos,after,guard⟩).run P w=.ok (.value x) w)(a9:dA κ (s.aa+1) (v.ap s.aa) x):dK P o ty ρ κ s w v s:=
 ⟨x,κ,w,.inl h,.refl _ _ _,a3,a9⟩
section
variable{P:Program}{ty:TypeId}{ρ:Operand→Value}{κ:bh}{s:ag}{w:World}(a3:cY κ s w)
include a3
theorem sK{v:ae}{x:Operand}(h:dA κ (s.aa+1) (v.ap s.aa) (ρ x)):dK P (.move x) ty ρ κ s w v s:=
 bE a3 _ (fun _ _ _ _=>by simp [execOp]) h
theorem pE{v:ae}{x:Operand}(h:dA κ (s.aa+1) (v.ap s.aa) (ρ x)):dK P (.assign x) ty ρ κ s w v s:=
 bE a3 _ (fun _ _ _ _=>by simp [execOp]) h
theorem zC{t:Bool}{a b:ae}{c x y:Operand}(a1:ρ c=.bool t)(ar:dA κ (s.aa+1) (a.ap s.aa) (ρ x))(av:dA κ (s.aa+1) (b.ap s.aa) (ρ y)):
  dK P (.pick c x y) ty ρ κ s w (bif t then a else b) s:=by
 refine bE a3 (if t then ρ x else ρ y) (fun _ _ _ _=>by simp [execOp,a1,asBool]) ?_;cases t<;> assumption
theorem uD{op:BinOp}{k:IntKind}{m n:Int}{t yt:TypeId}{x y:Operand}{v:ae}(a9:ρ x=.int k m)(eQ:ρ y=.int k n)(h:gj op k m n=some v):dK P (.binOp op t x y yt) ty ρ κ s w v s:=by
 have key:∃z,(binOp op t (.int k m) (.int k n)).run P w=.ok z w∧dA κ (s.aa+1) (v.ap s.aa) z:=by
  cases op<;> simp only[gj,bj,reduceCtorEq] at h
  case quo=>
   by_cases dk:n=0
   ·simp [dk] at h
   ·simp only[dk,↓reduceIte,bj] at h;subst h;exact⟨_,by simp only[binOp,Op.intDiv,dk,ne_eq,not_true_eq_false,↓reduceIte];rfl,.int k _⟩
  case rem=>
   by_cases dk:n=0
   ·simp [dk] at h
   ·simp only[dk,↓reduceIte,bj] at h;subst h;exact⟨_,by simp only[binOp,Op.intDiv,dk,ne_eq,not_true_eq_false,↓reduceIte];rfl,.int k _⟩
  case add=>subst h;exact⟨_,by simp only[binOp,Op.intArith,ne_eq,not_true_eq_false,↓reduceIte];rfl,.int k _⟩
  case sub=>subst h;exact⟨_,by simp only[binOp,Op.intArith,ne_eq,not_true_eq_false,↓reduceIte];rfl,.int k _⟩
  case mul=>subst h;exact⟨_,by simp only[binOp,Op.intArith,ne_eq,not_true_eq_false,↓reduceIte];rfl,.int k _⟩
  case and=>subst h;exact⟨_,by simp only[binOp,Op.intBits,ne_eq,not_true_eq_false,↓reduceIte];rfl,.int k _⟩
  case or=>subst h;exact⟨_,by simp only[binOp,Op.intBits,ne_eq,not_true_eq_false,↓reduceIte];rfl,.int k _⟩
  case xor=>subst h;exact⟨_,by simp only[binOp,Op.intBits,ne_eq,not_true_eq_false,↓reduceIte];rfl,.int k _⟩
  case andNot=>subst h;exact⟨_,by simp only[binOp,Op.intBits,ne_eq,not_true_eq_false,↓reduceIte];rfl,.int k _⟩
  all_goals (subst h;exact⟨_,by simp only[binOp,Op.intCmp,ne_eq,not_true_eq_false,↓reduceIte];rfl,.bool _⟩)
 obtain⟨z,hC,bJ⟩:=key;refine bE a3 z (fun _ _ _ _=>?_) bJ;have cB:(eqGuard op t x y (.int k m) (.int k n)).run P w=.ok () w:=by unfold eqGuard;split<;> rfl
 simp [execOp,a9,eQ,cB,hC]
theorem qJ{op:BinOp}{k lz:IntKind}{m n:Int}{t yt:TypeId}{x y:Operand}{v:ae}(a9:ρ x=.int k m)(eQ:ρ y=.int lz n)(e:op=.shl∨op=.shr)(h:lA op k m n=some v):dK P (.binOp op t x y yt) ty ρ κ s w v s:=by
 unfold lA at h;split at h
 ·cases h
 ·rename_i dk;rcases e with rfl |rfl <;> simp only[bj] at h<;> subst h<;> exact bE a3 _ (fun _ _ _ _=>by simp only[execOp,a9,eQ,eqGuard,binOp,Op.shift,dk];rfl) (.int k _)
theorem ww{k:IntKind}{n:Int}{t:TypeId}{x:Operand}(a9:ρ x=.int k n):dK P (.unOp .neg t x) ty ρ κ s w (.int k (k.wrap (0-n))) s:=
 bE a3 _ (fun _ _ _ _=>by simp only[execOp,a9,Op.unary,Op.intArith];rfl) (.int k _)
theorem wx{k:IntKind}{n:Int}{t:TypeId}{x:Operand}(a9:ρ x=.int k n):dK P (.unOp .xor t x) ty ρ κ s w (.int k (k.wrap (BitVec.ofInt k.bits (if k.signed then -1 else k.max) ^^^ BitVec.ofInt k.bits n).toNat)) s:=
 bE a3 _ (fun _ _ _ _=>by simp only[execOp,a9,Op.unary,Op.intBits];rfl) (.int k _)
theorem wy{b:Bool}{t:TypeId}{x:Operand}(a9:ρ x=.bool b):dK P (.unOp .not t x) ty ρ κ s w (.bool (!b)) s:=
 bE a3 _ (fun _ _ _ _=>by simp [execOp,a9,Op.unary]) (.bool _)
theorem uE{op:BinOp}{as fb:List Nat}{t yt:TypeId}{x y:Operand}{v:ae}(a9:dA κ (s.aa+1) (.str as) (ρ x))(eQ:dA κ (s.aa+1) (.str fb) (ρ y))(h:x1 op as fb=some v):dK P (.binOp op t x y yt) ty ρ κ s w v s:=by
 obtain⟨a,a9,e⟩:=a9.h4;obtain⟨b,eQ,r⟩:=eQ.h4;have u:(a.toList==b.toList)=(as==fb):=by rw[Go.ByteArray.toList_eq,Go.ByteArray.toList_eq,←e,←r,x8]
 have A:Op.bytesLess a.toList b.toList=jF as fb:=by rw[Go.ByteArray.toList_eq,Go.ByteArray.toList_eq,←e,←r,oI]
 have key:∃z,(binOp op t (.string a) (.string b)).run P w=.ok z w∧dA κ (s.aa+1) (v.ap s.aa) z:=by
  cases op<;> simp only[x1,bj,reduceCtorEq] at h
  case add=>
   split at h
   ·rename_i hle;simp only[bj] at h;subst h;have bK:=dW hle;have B:a.size=as.length:=by have:=congrArg List.length e;rw[eo,Array.length_toList] at this;exact this
    have F:b.size=fb.length:=by have:=congrArg List.length r;rw[eo,Array.length_toList] at this;exact this
    refine⟨.string (a++b),?_,.str _ _ ?_⟩
    ·have:¬(((a.size+b.size:Nat):Int)>IntKind.i64.max):=by rw[B,F];show¬_>(9223372036854775807:Int);omega
     simp only[binOp,Op.stringOp,this,↓reduceIte];rfl
    ·rw[←e,←r,←List.map_append];simp
   ·cases h
  all_goals (subst h;refine⟨_,by simp only[binOp,Op.stringOp,u,A];rfl,?_⟩;exact .bool _)
 obtain⟨z,hC,bJ⟩:=key;refine bE a3 z (fun _ _ _ _=>?_) bJ;have cB:(eqGuard op t x y (.string a) (.string b)).run P w=.ok () w:=by unfold eqGuard;split<;> rfl
 simp [execOp,a9,eQ,cB,hC]
theorem uF{k lz:IntKind}{n:Int}{src dst:TypeId}{x:Operand}{d:TypeDesc}(e:P.underlying src=some d)(h:P.underlying dst=some (.int k))(a9:ρ x=.int lz n):dK P (.convert src dst x) ty ρ κ s w (.int k (k.wrap n)) s:=
 bE a3 _ (fun _ _ _ _=>by simp [execOp,convert,run_underlying e,run_underlying h,a9,Conv.intToInt]) (.int k _)
theorem wz{fb:List Nat}{src dst:TypeId}{x:Operand}{d:TypeDesc}(e:P.underlying src=some d)(h:P.underlying dst=some .string)(a9:dA κ (s.aa+1) (.str fb) (ρ x)):dK P (.convert src dst x) ty ρ κ s w (.str fb) s:=by obtain⟨a,r,u⟩:=a9.h4;exact bE a3 _ (fun _ _ _ _=>by simp [execOp,convert,run_underlying e,run_underlying h,r]) (.str _ _ u)
theorem uG{v:ae}{t:TypeId}{x:Operand}{d:TypeDesc}(dU:P.underlying t=some d)(cR:(d matches .interface _)=false)(a9:dA κ (s.aa+1) (v.ap s.aa) (ρ x)):dK P (.makeInterface t x) ty ρ κ s w (.iface t (v.ap s.aa)) s:=
 bE a3 (.iface t (ρ x)) (fun _ _ _ _=>by simp only[execOp,Instr.makeInterface,map_eq_pure_bind,Sem.run_bind,run_underlying dU,Result.andThen_ok];cases d<;> simp at cR ⊢) (.iface t _ _ a9)
theorem uH{vs:List ae}{i:Nat}{x:Operand}{v:ae}(a9:dA κ (s.aa+1) (.eb vs) (ρ x))(bJ:vs[i]? =some v)(fp:v.ap s.aa=v):dK P (.extract x i) ty ρ κ s w v s:=by obtain⟨xs,r,bK,h⟩:=a9.uB;have bY:=(eA.1 bJ).1;have e:xs[i]? =some xs[i]:=eI (by omega);exact bE a3 xs[i] (fun _ _ _ _=>by simp [execOp,Instr.extract,r,e]) (by rw[fp];exact h i v _ bJ e)
end
def zD:TypeDesc→Bool
 |.struct _|.array _ _=>true
 |_=>false
def kM(P:Program)(t:TypeId):Option Bool:=(P.underlying t).map zD
def e9(P:Program)(t:TypeId):Option Nat:=(P.info? t).map (·.size)
theorem iY{P:Program}{t:TypeId}{b:Bool}(h:kM P t=some b)(w:World):(isAgg t).run P w=.ok b w:=by
 unfold kM at h;cases cR:P.underlying t with
 |none=>simp [cR] at h
 |some d=>simp only[cR,ep,bj] at h;subst h;simp only[isAgg,Sem.run_bind,run_underlying cR,Result.andThen_ok];cases d<;> rfl
theorem ey{P:Program}{t:TypeId}{n:Nat}(h:e9 P t=some n)(w:World):(sizeOf t).run P w=.ok n w:=by
 unfold e9 at h;cases cR:P.info? t with
 |none=>simp [cR] at h
 |some i=>simp only[cR,ep,bj] at h;subst h;simp [sizeOf,typeInfo,cR]
section
variable{P:Program}{ty:TypeId}{ρ:Operand→Value}{κ:bh}{s:ag}{w:World}(a3:cY κ s w)
include a3
def Reads(κ:bh)(D:Nat)(w:World)(a:Addr)(cs:List ae):Prop:=∃dr:Nat→Value,(∀j,j<cs.length→w.cell? (a.add j)=some (dr j))∧∀(j:Nat) (c:ae),cs[j]? =some c→dA κ D c (dr j)
omit a3 in
theorem Reads.drop{D:Nat}{a:Addr}{cs:List ae}(h:Reads κ D w a cs)(n:Nat):Reads κ D w (a.add n) (cs.drop n):=by obtain⟨dr,ar,av⟩:=h;refine⟨fun j=>dr (n+j),fun j df=>?_,fun j c a1=>av _ c (by simpa using a1)⟩;rw[add_add];exact ar _ (by simp at df;omega)
theorem zE{D:Nat}{cs:List ae}{x:Value}(h:dA κ D (.bP cs) x):∃a,x=.pointer (some a)∧a.spot=none∧Reads κ D w a cs:=by obtain⟨a,dr,rfl,ar,av,bO⟩:=h.sf;exact⟨a,rfl,ar,dr,fun j df=>(a3.iA _ _ (av j df)).2,bO⟩
theorem nU{d i:Nat}{cs:List ae}(h:s.get (.g d i)=some (.cells cs))(off:Nat):Reads κ (d+1) w ⟨κ.loc d i,off,none⟩ (cs.drop off):=by
 obtain⟨⟨C,e,jt,ar,av,bO,_⟩,dD⟩:=a3.obj d i _ h;have bK:cs.length≤C.size:=by have:=bO.1;simp at this;omega
 refine⟨fun j=>C.getD (off+j) undef,fun j df=>?_,fun j c a1=>?_⟩
 ·rw[fT rfl,fI ar];simp at df;simp [Array.getD,show off+j<C.size by omega]
 ·obtain⟨x,a9,bJ⟩:=bO.get (show cs[off+j]? =some c by simpa using a1);have r:off+j<cs.length:=(eA.1 (show cs[off+j]? =some c by simpa using a1)).1
  have:C.getD (off+j) undef=x:=by
   rw[List.getElem?_take,if_pos r] at a9;have u:C[off+j]? =some x:=by simpa using a9
   simp [Array.getD_eq_getD_getElem?,u]
  simpa [this] using bJ
omit a3 in
theorem sg{D e:Nat}{a:Addr}{cs:List ae}(h:Reads κ D w a cs)(r:D≤e):Reads κ e w a cs:=by obtain⟨v,ar,av⟩:=h;exact⟨v,ar,fun j c a1=>(av j c a1).up r⟩
omit a3 in
theorem sL{D:Nat}{a:Addr}{cs:List ae}(h:Reads κ D w a cs){n:Nat}(dk:n≤cs.length):∃xs:List Value,(loadCells a n).run P w=.ok xs.toArray w∧ej κ D (cs.take n) xs:=by
 obtain⟨dr,ar,av⟩:=h;refine⟨(List.range n).map dr,run_loadCells w a n dr (fun j df=>ar j (by omega)),by simp;omega,fun j c x a1 a9=>?_⟩;simp only[iJ,List.getElem?_range] at a9;rw[List.getElem?_take] at a1;by_cases df:j<n
 ·simp only[df,↓reduceIte] at a1;have e:(List.range n)[j]? =some j:=by simp [df]
  rw[e] at a9;simp only[ep,bj] at a9;exact a9 ▸ av j c a1
 ·simp [df] at a1
omit a3 in
theorem sh{D:Nat}{a:Addr}{cs:List ae}(h:Reads κ D w a cs){n:Nat}(dk:n≤cs.length){t:TypeId}(ar:kM P t=some true)(av:e9 P t=some n):∃x,(loadVar t a).run P w=.ok x w∧dA κ D (.agg (cs.take n)) x:=by obtain⟨xs,e,bJ⟩:=sL (P:=P) h dk;refine⟨.agg xs.toArray,by simp [loadVar,iY ar,ey av,e],.agg _ xs bJ.1 bJ.2⟩
omit a3 in
theorem si{D:Nat}{a:Addr}{c:ae}{cs:List ae}(h:Reads κ D w a (c::cs)){t:TypeId}(ar:kM P t=some false):∃x,(loadVar t a).run P w=.ok x w∧dA κ D c x:=by obtain⟨dr,e,bJ⟩:=h;have nV:=e 0 (by simp);simp only[Addr.add,↓reduceIte] at nV;exact⟨dr 0,by simp [loadVar,iY ar,nV],bJ 0 c rfl⟩
def jS(P:Program)(t:TypeId):Option Nat→Bool
 |none=>kM P t==some false
 |some n=>kM P t==some true&&e9 P t==some n
omit a3 in
theorem sj{D:Nat}{a:Addr}{cs:List ae}(h:Reads κ D w a cs){n:Option Nat}{t:TypeId}(dk:jS P t n=true){E:Env}(bo:E.F=.not){k:ae→ag→ah}{r:ah}(aQ:eR E s k n cs=r)(bt:r≠.fail):
  ∃v x,k v s=r∧(loadVar t a).run P w=.ok x w∧dA κ D v x:=by
 cases n with
 |none=>
  cases cs with
  |nil=>simp [eR] at aQ;exact absurd aQ.symm bt
  |cons c cs=>simp only[eR,bo,aU.not] at aQ;obtain⟨x,a9,bJ⟩:=si (P:=P) h (by simpa [jS] using dk);exact⟨c,x,aQ,a9,bJ⟩
 |some n=>
  simp only[jS,bm,beq_iff_eq] at dk;simp only[eR,bo,aU.not] at aQ;by_cases bK:n≤cs.length
  ·rw[eN bK,bX] at aQ;obtain⟨x,a9,bJ⟩:=sh (P:=P) h bK dk.1 dk.2;exact⟨_,x,aQ,a9,bJ⟩
  ·have:Nat.ble n cs.length=false:=by
    cases e:Nat.ble n cs.length with
    |false=>rfl
    |true=>exact absurd (dW e) bK
   rw[this,cond_false] at aQ;exact absurd aQ.symm bt
omit a3 in
theorem iz.ap{D sz n cap:Nat}{g:e2}{a:Addr}(h:iz κ D sz g n a cap)(d:Nat):g.ap d=g:=by
 cases g with
 |dt a=>cases a with
  |l i=>simp [iz] at h
  |g d i=>rfl
 |_=>rfl
omit a3 in
theorem tQ{D:Nat}{v:ae}{x:Value}(h:dA κ D v x)(d:Nat):v.ap d=v:=by
 cases h<;> try rfl
 simp only[ae.ap];rw[iz.ap (by assumption)]
theorem zF{E:Env}(bo:E.F=.not){k:ae→ag→ah}{r:ah}(bt:r≠.fail){n:Option Nat}{t:TypeId}{x:Operand}{v:ae}(dk:jS P t n=true)(a9:dA κ (s.aa+1) (v.ap s.aa) (ρ x))
  (aQ:dX E s k n v=r):∃fB,k fB s=r∧dK P (.load t x) ty ρ κ s w fB s:=by
 cases v<;> simp only[ae.ap] at a9<;> simp only[dX] at aQ<;> try exact absurd aQ.symm bt
 case bP cs=>obtain⟨a,e,_,h⟩:=zE a3 a9;obtain⟨fB,y,ar,av,bO⟩:=sj h dk bo aQ bt;exact⟨fB,ar,bE a3 y (fun _ _ _ _=>by simp [execOp,Instr.loadAt,e,Instr.sureAddr,av]) (by rw[tQ bO];exact bO)⟩
 case ref a off=>
  rw[←ag.hJ] at aQ;cases u:a.ap s.aa with
  |l i=>cases a<;> simp [Loc.ap] at u
  |g d i=>
   rw[u] at aQ a9;obtain⟨e,cR,_⟩:=a9.mi;cases cB:s.get (.g d i) with
   |none=>rw[cB] at aQ;exact absurd aQ.symm bt
   |some o=>
    rw[cB] at aQ;cases o<;> try exact absurd aQ.symm bt
    rename_i cs;have h:=sg (nU a3 cB off) (show d+1≤s.aa+1 by omega);obtain⟨fB,y,ar,av,bO⟩:=sj h dk bo aQ bt;exact⟨fB,ar,bE a3 y (fun _ _ _ _=>by simp [execOp,Instr.loadAt,e,Instr.sureAddr,av]) (by rw[tQ bO];exact bO)⟩
end
theorem iZ{v:ae}{n:Nat}(h:eX v=some n):∃k,v=.int k n:=by cases v<;> simp [eX] at h;rename_i k m;exact⟨k,by rw[←h.2,Int.toNat_of_nonneg h.1]⟩
theorem CQ{n m:Nat}{r:ah}{x:ah}(h:(bif Nat.ble n m then x else .fail)=r)(bt:r≠.fail):n≤m∧x=r:=by
 cases e:Nat.ble n m with
 |true=>rw[e] at h;exact⟨dW e,h⟩
 |false=>rw[e] at h;exact absurd h.symm bt
theorem cV{b:Bool}{r:ah}{x:ah}(h:(bif b then x else .fail)=r)(bt:r≠.fail):b=true∧x=r:=by
 cases b with
 |true=>exact⟨rfl,h⟩
 |false=>exact absurd h.symm bt
section
variable{P:Program}{ty:TypeId}{ρ:Operand→Value}{κ:bh}{s:ag}{w:World}(a3:cY κ s w)
include a3
theorem sk{E:Env}(bo:E.F=.not){k:ae→ag→ah}{r:ah}(bt:r≠.fail){t:TypeId}{x:Operand}{v:ae}{i off:Nat}{jy:Array Field}{f:Field}(dU:P.underlying t=some (.struct jy))(u:jy[i]? =some f)(y:f.offset=off)
  {n:Nat}(hC:e9 P f.type=some n)(dk:n≠0)(a9:dA κ (s.aa+1) (v.ap s.aa) (ρ x))(aQ:gJ E s k off v=r):∃fB,k fB s=r∧dK P (.fieldAddr t x i) ty ρ κ s w fB s:=by
 have run:∀(a:Addr),ρ x=.pointer (some a)→∀dst pos after guard,(execOp ρ ⟨dst,.fieldAddr t x i,ty,pos,after,guard⟩).run P w=.ok (.value (.pointer (some (a.add off)))) w:=by intro a h dst pos after guard;simp [execOp,Instr.fieldAt,run_underlying dU,u,h,Instr.sureAddr,fieldPlace,ey hC,dk,y]
 cases v<;> simp only[ae.ap] at a9<;> simp only[gJ,bo,aU.not] at aQ<;> try exact absurd aQ.symm bt
 case bP cs=>obtain⟨a,dr,e,ar,av,bO⟩:=a9.sf;refine⟨_,aQ,bE a3 _ (run a e) ?_⟩;refine .bP _ _ (fun j=>dr (off+j)) (md ar _) (fun j df=>?_) (fun j c a1=>bO _ c (by simpa using a1));rw[add_add];exact av _ (by simp at df;omega)
 case ref a o=>
  refine⟨_,aQ,?_⟩;cases h:a.ap s.aa with
  |l i=>cases a<;> simp [Loc.ap] at h
  |g d j=>rw[h] at a9;obtain⟨e,cR,df⟩:=a9.mi;refine bE a3 _ (run _ e) ?_;simp only[ae.ap,h,fT (show(⟨κ.loc d j,o,none⟩:Addr).spot=none from rfl)];exact .ref d j _ cR df
omit a3 in
theorem xg{cs:List ae}{xs:List Value}{D off:Nat}(h:ej κ D cs xs){t:TypeId}{n:Option Nat}(dk:jS P t n=true){E:Env}(bo:E.F=.not){k:ae→ag→ah}{r:ah}(aQ:eR E s k n (cs.drop off)=r)(bt:r≠.fail):
  ∃v x,k v s=r∧(part t xs.toArray off).run P w=.ok x w∧dA κ D v x:=by
 have cR:=h.drop off;cases n with
 |none=>
  cases a1:cs.drop off with
  |nil=>rw[a1] at aQ;simp [eR] at aQ;exact absurd aQ.symm bt
  |cons c u=>
   rw[a1] at aQ;simp only[eR,bo,aU.not] at aQ;rw[a1] at cR;obtain⟨x,y,fU,bJ,_⟩:=cR.tO;refine⟨c,x,aQ,?_,bJ⟩;have e:xs[off]? =some x:=by have:=congrArg (fun l:List Value=>l[0]?) fU;simpa using this
   simp [part,iY (show kM P t=some false by simpa [jS] using dk),e]
 |some n=>
  simp only[jS,bm,beq_iff_eq] at dk;simp only[eR,bo,aU.not] at aQ;obtain⟨bK,dc⟩:=CQ aQ bt;refine⟨_,.agg ((xs.drop off).take n).toArray,dc,?_,.agg _ _ (cR.take n).1 (cR.take n).2⟩
  have:xs.toArray.extract off (off+n)=((xs.drop off).take n).toArray:=by rw[List.extract_toArray];congr 1;simp [List.extract_eq_take_drop]
  simp [part,iY dk.1,ey dk.2,this]
theorem x9{E:Env}(bo:E.F=.not){k:ae→ag→ah}{r:ah}(bt:r≠.fail){t:TypeId}{x:Operand}{v:ae}{i off:Nat}{n:Option Nat}{jy:Array Field}{f:Field}(dU:P.underlying t=some (.struct jy))(u:jy[i]? =some f)(A:f.offset=off)
  (dk:jS P f.type n=true)(a9:dA κ (s.aa+1) (v.ap s.aa) (ρ x))(aQ:lB E s k off n v=r):∃fB,k fB s=r∧dK P (.field t x i) ty ρ κ s w fB s:=by
 cases v<;> simp only[ae.ap] at a9<;> simp only[lB] at aQ<;> try exact absurd aQ.symm bt
 obtain⟨xs,e,h⟩:=a9.mh;obtain⟨fB,y,ar,av,bO⟩:=xg (w:=w) h dk bo aQ bt;exact⟨fB,ar,bE a3 y (fun _ _ _ _=>by simp [execOp,Instr.field,run_underlying dU,u,e,asAgg,A,av]) (by rw[tQ bO];exact bO)⟩
theorem wA{E:Env}(bo:E.F=.not){k:ae→ag→ah}{r:ah}(bt:r≠.fail){t e:TypeId}{x y:Operand}{v i:ae}{sz len:Nat}{n:Option Nat}(dU:P.underlying t=some (.array len e))(hC:e9 P e=some sz)
  (dk:jS P e n=true)(a9:dA κ (s.aa+1) (v.ap s.aa) (ρ x))(bY:dA κ (s.aa+1) (i.ap s.aa) (ρ y))(aQ:kd E s k sz len n v i=r):∃fB,k fB s=r∧dK P (.index t x y) ty ρ κ s w fB s:=by
 cases v<;> simp only[ae.ap] at a9<;> simp only[kd] at aQ<;> try exact absurd aQ.symm bt
 rename_i cs;obtain⟨xs,ex,h⟩:=a9.mh;cases u:eX i with
 |none=>rw[u] at aQ;exact absurd aQ.symm bt
 |some m=>
  rw[u] at aQ;obtain⟨ek,rfl⟩:=iZ u;have A:=bY.ew;obtain⟨B,aQ⟩:=cV aQ bt;have hm:m<len:=by simpa [Nat.blt_eq] using B
  obtain⟨fB,z,ar,av,bO⟩:=xg (w:=w) h dk bo aQ bt;refine⟨fB,ar,bE a3 z (fun _ _ _ _=>?_) (by rw[tQ bO];exact bO)⟩;simp [execOp,Instr.index,run_underlying dU,ex,A,asIntOf,hm,ey hC,av]
theorem wB{E:Env}(bo:E.F=.not){k:ae→ag→ah}{r:ah}(bt:r≠.fail){t:TypeId}{x y:Operand}{v i:ae}(dU:P.underlying t=some .string)
  (a9:dA κ (s.aa+1) (v.ap s.aa) (ρ x))(bY:dA κ (s.aa+1) (i.ap s.aa) (ρ y))(aQ:h0 E s k v i=r):∃fB,k fB s=r∧dK P (.index t x y) ty ρ κ s w fB s:=by
 cases v<;> simp only[ae.ap] at a9<;> simp only[h0] at aQ<;> try exact absurd aQ.symm bt
 rename_i fb;obtain⟨a,ex,h⟩:=a9.h4;cases u:eX i with
 |none=>rw[u] at aQ;exact absurd aQ.symm bt
 |some m=>
  rw[u] at aQ;obtain⟨ek,rfl⟩:=iZ u;have B:=bY.ew;cases e:fb[m]? with
  |none=>simp only[e] at aQ;exact absurd aQ.symm bt
  |some b=>
   simp only[e,bo,aU.not] at aQ;refine⟨_,aQ,bE a3 (.int .u8 b) (fun _ _ _ _=>?_) (.int _ _)⟩;rw[←h,iJ] at e;cases a1:a.data.toList[m]? with
   |none=>simp [a1] at e
   |some c=>
    simp only[a1,ep,bj] at e;subst e;have A:=(eA.1 a1).1;have H:a[m]? =some c:=by
     have eZ:m<a.size:=by rw[Array.length_toList] at A;exact A
     rw[getElem?_pos a m eZ];have av:=(eA.1 a1).2;rw[ByteArray.getElem_eq_getElem_data];simpa using av
    have key:(Instr.index t (.string a) (.int ek m)).run P w=.ok (.int .u8 c.toNat) w:=by simp only[Instr.index,Sem.run_bind,asIntOf,Sem.run_pure,Result.andThen_ok,run_underlying dU,Int.natCast_nonneg,↓reduceIte,Int.toNat_natCast,H]
    simp only[execOp,ex,B,Sem.run_bind,key,Result.andThen_ok,Sem.run_pure]
omit a3 in
theorem ht{D:Nat}{v:ae}{x:Value}(h:dA κ D v x):(∀sz es g,v=.cr sz es g→∃a c,x=.slice a es.length c)∧∀a off len cap sz,v=.cZ a off len cap sz→∃p c,x=.slice p len c:=by cases h<;> refine⟨fun sz es g e=>?_,fun a off len cap sz e=>?_⟩<;> cases e<;> exact⟨_,_,rfl⟩
theorem uI{E:Env}(bo:E.F=.not){k:ae→ag→ah}{r:ah}(bt:r≠.fail){b:Bool}{t:TypeId}{d:TypeDesc}{x:Operand}{v:ae}(dU:P.underlying t=some d)(cR:(b=true∧d=.string)∨(b=false∧∃e,d=.slice e))
  (a9:dA κ (s.aa+1) (v.ap s.aa) (ρ x))(aQ:pC E s k b v=r):∃fB,k fB s=r∧dK P (.call {callee:=.builtin .len,args:= #[x],argTypes:= #[t]}) ty ρ κ s w fB s:=by
 have u:=ht a9;cases v<;> simp only[ae.ap] at a9 u<;> rcases cR with⟨rfl,rfl⟩|⟨rfl,e,rfl⟩<;> simp only[pC,bo,aU.not] at aQ<;> try exact absurd aQ.symm bt
 case str.inl fb=>
  obtain⟨a,ex,h⟩:=a9.h4;refine⟨_,aQ,bE a3 (.int .i64 fb.length) (fun _ _ _ _=>?_) (.int _ _)⟩
  have:a.size=fb.length:=by have:=congrArg List.length h;rw[eo,Array.length_toList] at this;exact this
  simp [execOp,resolve,invoke,builtin,Builtin.len_,run_underlying dU,ex,goInt,this]
 case cr.inr sz es g=>refine⟨_,aQ,bE a3 (.int .i64 es.length) (fun _ _ _ _=>?_) (.int _ _)⟩;obtain⟨a,c,ex⟩:=u.1 _ _ _ rfl;simp [execOp,resolve,invoke,builtin,Builtin.len_,run_underlying dU,ex,goInt]
 case cZ.inr a off len cap sz=>refine⟨_,aQ,bE a3 (.int .i64 len) (fun _ _ _ _=>?_) (.int _ _)⟩;obtain⟨p,lE,ex⟩:=u.2 _ _ _ _ _ rfl;simp [execOp,resolve,invoke,builtin,Builtin.len_,run_underlying dU,ex,goInt]
end
theorem nu:∀(es:List ae) (sz i:Nat) (e:ae),(∀e,e∈es→e.cells.length=sz)→es[i]? =some e→∀j,j<sz→(es.flatMap ae.cells)[i*sz+j]? =e.cells[j]?
 |[],_,_,_,_,h,_,_=>by simp at h
 |x::es,sz,i,e,bK,h,j,df=>by
  have a9:=bK x (by simp);simp only[List.flatMap_cons];cases i with
  |zero=>simp at h;subst h;rw[ha (by omega)];simp
  |succ i=>rw[jW (by rw[a9,Nat.succ_mul];omega),a9,show(i+1)*sz+j-sz=i*sz+j by rw[Nat.succ_mul];omega];exact nu es sz i e (fun e he=>bK e (by simp [he])) (by simpa using h) j df
theorem e4:∀(es:List ae) (sz:Nat),(∀e,e∈es→e.cells.length=sz)→(es.flatMap ae.cells).length=es.length*sz
 |[],sz,_=>by simp
 |x::es,sz,bK=>by simp only[List.flatMap_cons,gu,bT,bK x (by simp),e4 es sz (fun e he=>bK e (by simp [he])),Nat.succ_mul];omega
theorem dA.ht{κ:bh}{D sz:Nat}{es:List ae}{g:e2}{x:Value}(h:dA κ D (.cr sz es g) x):(es=[]∧g=.nil∧x=.slice none 0 0)∨
  ∃(a:Addr) (cap:Nat) (dr:Nat→Value),x=.slice (some a) es.length cap∧iz κ D sz g es.length a cap∧es.length≤cap∧(es≠[]→a.spot=none)∧(∀e,e∈es→e.cells.length=sz)∧ur g es∧
   (∀j,j<(es.flatMap ae.cells).length→κ.F (a.add j)=some (dr j))∧∀(j:Nat) (c:ae),(es.flatMap ae.cells)[j]? =some c→dA κ D c (dr j):=by
 cases h with
 |kI=>exact .inl ⟨rfl,rfl,rfl⟩
 |cr=>exact .inr ⟨_,_,_,rfl,by assumption,by assumption,by assumption,by assumption,by assumption,by assumption,by assumption⟩
section
variable{P:Program}{ty:TypeId}{ρ:Operand→Value}{κ:bh}{s:ag}{w:World}(a3:cY κ s w)
include a3
theorem ya{E:Env}(bo:E.F=.not){k:ae→ag→ah}{r:ah}(bt:r≠.fail){t e:TypeId}{x y:Operand}{v i:ae}{sz:Nat}(dU:P.underlying t=some (.slice e))(hC:e9 P e=some sz)
  (a9:dA κ (s.aa+1) (v.ap s.aa) (ρ x))(bY:dA κ (s.aa+1) (i.ap s.aa) (ρ y))(aQ:kz E s k sz v i=r):∃fB,k fB s=r∧dK P (.indexAddr t x y) ty ρ κ s w fB s:=by
 unfold kz at aQ;cases B:eX i with
 |none=>rw[B] at aQ;exact absurd aQ.symm bt
 |some m=>
  rw[B] at aQ;obtain⟨ek,rfl⟩:=iZ B;have H:=bY.ew;have run:∀(a:Addr) (len cap:Nat),ρ x=.slice (some a) len cap→m<len→∀dst pos after guard,(execOp ρ ⟨dst,.indexAddr t x y,ty,pos,after,guard⟩).run P w=.ok (.value (.pointer (some (a.add (m*sz))))) w:=by intro a len cap u hm dst pos after guard;simp [execOp,Instr.indexAt,run_underlying dU,u,H,asIntOf,hm,ey hC]
  cases v<;> simp only[ae.ap] at a9<;> simp only[bo,aU.not] at aQ<;> try exact absurd aQ.symm bt
  case cr z es g=>
   obtain⟨A,h⟩:=cV aQ bt;clear aQ;obtain rfl:z=sz:=dj A;cases he:es[m]? with
   |none=>rw[he] at h;exact absurd h.symm bt
   |some el=>
    rw[he] at h;simp only at h;refine⟨_,h,?_⟩;have hm:=(eA.1 he).1;rcases a9.ht with⟨rfl,_,_⟩|⟨a,cap,dr,ex,ar,av,bO,dD,L,I,J⟩
    ·simp at he
    ·refine bE a3 _ (run a _ _ ex hm) ?_;have iB:=dD el (List.mem_of_getElem? he);have K:=e4 es z dD;refine .bP _ _ (fun j=>dr (m*z+j)) (md (bO (fun nV=>by simp_all)) _) (fun j df=>?_) (fun j c a1=>?_)
     ·rw[add_add];refine I _ ?_;rw[K]
      have:(m+1)*z≤es.length*z:=fO _ hm;rw[Nat.succ_mul] at this;omega
     ·have df:j<z:=by rw[←iB];exact(eA.1 a1).1
      exact J _ c (by rw[nu es z m el dD he j df];exact a1)
  case cZ a off len cap z=>
   obtain⟨A,h⟩:=cV aQ bt;clear aQ;rw[bm] at A;obtain rfl:z=sz:=dj A.1;have hm:m<len:=by simpa [Nat.blt_eq] using A.2
   refine⟨_,h,?_⟩;cases u:a.ap s.aa with
   |l i=>cases a<;> simp [Loc.ap] at u
   |g d j=>rw[u] at a9;obtain⟨lE,hR,cR,df,_⟩:=a9.jL;refine bE a3 _ (run _ _ _ hR hm) ?_;simp only[ae.ap,u,fT (show(⟨κ.loc d j,off,none⟩:Addr).spot=none from rfl)];exact .ref d j _ cR df
theorem wC{E:Env}(bo:E.F=.not){k:ae→ag→ah}{r:ah}(bt:r≠.fail){t e:TypeId}{x y:Operand}{v i:ae}{sz len:Nat}(dU:P.underlying t=some (.array len e))(hC:e9 P e=some sz)
  (a9:dA κ (s.aa+1) (v.ap s.aa) (ρ x))(bY:dA κ (s.aa+1) (i.ap s.aa) (ρ y))(aQ:hH E s k sz len v i=r):∃fB,k fB s=r∧dK P (.indexAddr t x y) ty ρ κ s w fB s:=by
 unfold hH at aQ;cases A:eX i with
 |none=>rw[A] at aQ;exact absurd aQ.symm bt
 |some m=>
  rw[A] at aQ;obtain⟨ek,rfl⟩:=iZ A;have B:=bY.ew;obtain⟨H,u⟩:=cV aQ bt;clear aQ;have hm:m<len:=by simpa [Nat.blt_eq] using H
  have run:∀(a:Addr),ρ x=.pointer (some a)→∀dst pos after guard,(execOp ρ ⟨dst,.indexAddr t x y,ty,pos,after,guard⟩).run P w=.ok (.value (.pointer (some (a.add (m*sz))))) w:=by intro a h dst pos after guard;simp [execOp,Instr.indexAt,run_underlying dU,h,B,asIntOf,hm,ey hC,Instr.sureAddr]
  cases v<;> simp only[ae.ap] at a9<;> simp only[bo,aU.not] at u<;> try exact absurd u.symm bt
  case bP cs=>obtain⟨a,dr,hR,ar,av,bO⟩:=a9.sf;refine⟨_,u,bE a3 _ (run a hR) ?_⟩;refine .bP _ _ (fun j=>dr (m*sz+j)) (md ar _) (fun j df=>?_) (fun j c a1=>bO _ c (by simpa using a1));rw[add_add];exact av _ (by simp at df;omega)
  case ref a o=>
   refine⟨_,u,?_⟩;cases h:a.ap s.aa with
   |l i=>cases a<;> simp [Loc.ap] at h
   |g d j=>rw[h] at a9;obtain⟨hR,cR,df⟩:=a9.mi;refine bE a3 _ (run _ hR) ?_;simp only[ae.ap,h,fT (show(⟨κ.loc d j,o,none⟩:Addr).spot=none from rfl)];exact .ref d j _ cR df
omit a3 in
theorem sl{v:ae}{m y:Nat}{x:Value}{D:Nat}(h:eX v=some m)(a9:dA κ D v x)(hm:m≤y)(code:BoundsCode):(Instr.sliceBound x y code).run P w=.ok m w:=by obtain⟨ek,rfl⟩:=iZ h;rw[a9.ew];simp [Instr.sliceBound,asIntOf,hm]
omit a3 in
theorem CR{v:ae}{m:Nat}(h:eX v=some m)(d:Nat):v.ap d=v:=by obtain⟨ek,rfl⟩:=iZ h;rfl
omit a3 in
theorem zG{G:Nat→ae}{ao:Nat→ae}{a:Act}(bZ:wl κ s ao a)(dS:j9 κ G){o:Option bB}{p:Option Operand}(h:fu o p=true){r m:Nat}(e:dB G ao o r=some m):
  (o=none∧p=none∧m=r)∨∃x y v,o=some x∧p=some y∧eX v=some m∧dA κ (s.aa+1) v (a.eval y):=by
 cases o with
 |none=>cases p with
  |none=>simp [dB] at e;exact .inl ⟨rfl,rfl,e.symm⟩
  |some y=>simp [fu] at h
 |some x=>cases p with
  |none=>simp [fu] at h
  |some y=>simp only[dB] at e;have bJ:=bq bZ dS (show cD x y=true by simpa [fu] using h);rw[CR e] at bJ;exact .inr ⟨x,y,_,rfl,rfl,e,bJ⟩
omit a3 in
theorem p9{G:Nat→ae}{ao:Nat→ae}{a:Act}(bZ:wl κ s ao a)(dS:j9 κ G){o:Option bB}{p:Option Operand}(h:fu o p=true){e m:Nat}(r:dB G ao o e=some m):
  (o=none∧p=none∧m=e)∨∃x y,o=some x∧p=some y∧∀(Y:Nat) (code:BoundsCode),m≤Y→(Instr.sliceBound (a.eval y) Y code).run P w=.ok m w:=by
 rcases zG bZ dS h r with ar|⟨x,y,v,ar,av,bO,dD⟩
 ·exact .inl ar
 ·exact .inr ⟨x,y,ar,av,fun Y code hm=>sl bO dD hm code⟩
omit a3 in
theorem hj{G:Nat→ae}{ao:Nat→ae}{a:Act}(bZ:wl κ s ao a)(dS:j9 κ G){gk bY iE:Option bB}{e r u:Option Operand}(y:fu gk e=true)(A:fu bY r=true)(B:fu iE u=true)
  {l h m len cap:Nat}(lX:dB G ao gk 0=some l)(F:dB G ao bY len=some h)(H:dB G ao iE cap=some m)(ar:l≤h)(av:h≤m)(bO:m≤cap)(I:iE.isSome=true→bY.isSome=true)(J:Bool):
  (Instr.sliceBounds J len cap (e.map a.eval) (r.map a.eval) (u.map a.eval)).run P w=.ok (l,h,m) w:=by
 have K:h≤cap:=by omega
 rcases p9 (P:=P) (w:=w) bZ dS y lX with⟨rfl,rfl,rfl⟩|⟨L,M,rfl,rfl,N⟩ <;>
 rcases p9 (P:=P) (w:=w) bZ dS A F with⟨rfl,rfl,rfl⟩|⟨O,U,rfl,rfl,V⟩ <;>
 rcases p9 (P:=P) (w:=w) bZ dS B H with⟨rfl,rfl,rfl⟩|⟨Y,Z,rfl,rfl,aa⟩ <;>
 first
  |(simp at I;done)
  |simp (discharger:=omega) [Instr.sliceBounds, *]
end
section
variable{P:Program}{ty:TypeId}{ρ:Operand→Value}{κ:bh}{s:ag}{w:World}(a3:cY κ s w)
theorem nv(a:ByteArray)(l h:Nat):(a.extract l h).data.toList=(a.data.toList.drop l).take (h-l):=by simp [List.extract_eq_take_drop]
include a3
theorem wD{E:Env}(bo:E.F=.not){k:ae→ag→ah}{r:ah}(bt:r≠.fail){ao:Nat→ae}{a:Act}(bZ:wl κ s ao a)(dS:j9 κ E.au){t:TypeId}{x:bB}{y:Operand}{gk bY:Option bB}{A B:Option Operand}(dU:P.underlying t=some .string)
  (I:cD x y=true)(J:fu gk A=true)(K:fu bY B=true)(aQ:jG E ao s k (aq E.au ao x) gk bY=r):∃fB,k fB s=r∧dK P (.slice t y A B none) ty a.eval κ s w fB s:=by
 have a9:=bq bZ dS I;generalize bJ:aq E.au ao x=v at a9 aQ;cases v<;> simp only[ae.ap] at a9<;> simp only[jG] at aQ<;> try exact absurd aQ.symm bt
 rename_i fb;cases lX:dB E.au ao gk 0 with
 |none=>simp only[lX] at aQ;exact absurd aQ.symm bt
 |some l=>
  cases e:dB E.au ao bY fb.length with
  |none=>simp only[lX,e] at aQ;exact absurd aQ.symm bt
  |some h=>
   simp only[lX,e,bo,aU.not] at aQ;obtain⟨u,L⟩:=cV aQ bt;rw[bm] at u;have ar:=dW u.1;have av:=dW u.2;obtain⟨c,ex,a1⟩:=a9.h4;have eZ:c.size=fb.length:=by have:=congrArg List.length a1;rw[eo,Array.length_toList] at this;exact this
   refine⟨_,L,bE a3 (.string (c.extract l h)) (fun _ _ _ _=>?_) (.str _ _ ?_)⟩
   ·have H:=hj (P:=P) (w:=w) bZ dS J K (show fu none none=true from rfl) (len:=c.size) (cap:=c.size) lX (by rw[eZ];exact e) (m:=c.size) rfl ar (by omega) (aB _) (by simp) false;simp only[Option.map_none] at H;simp [execOp,Instr.sliceAt,Instr.slice,run_underlying dU,ex,H]
   ·rw[nv,List.map_take,List.map_drop,a1]
theorem wE{E:Env}(bo:E.F=.not){k:ae→ag→ah}{r:ah}(bt:r≠.fail){ao:Nat→ae}{a:Act}(bZ:wl κ s ao a)(dS:j9 κ E.au){t e:TypeId}{sz n:Nat}{x:bB}{y:Operand}{gk bY iE:Option bB}{B H I:Option Operand}(dU:P.underlying t=some (.array n e))(hC:e9 P e=some sz)
  (M:cD x y=true)(N:fu gk B=true)(O:fu bY H=true)(U:fu iE I=true)(V:iE.isSome=true→bY.isSome=true)(aQ:ix E ao s k sz n (aq E.au ao x) gk bY iE=r):∃fB,k fB s=r∧dK P (.slice t y B H I) ty a.eval κ s w fB s:=by
 have a9:=bq bZ dS M;generalize bJ:aq E.au ao x=v at a9 aQ;have run:∀(A:Addr) (l h m:Nat),a.eval y=.pointer (some A)→(Instr.sliceBounds false n n (B.map a.eval) (H.map a.eval) (I.map a.eval)).run P w=.ok (l,h,m) w→∀dst pos after guard,(execOp a.eval ⟨dst,.slice t y B H I,ty,pos,after,guard⟩).run P w=.ok (.value (.slice (some (if m=l then A else A.add (l*sz))) (h-l) (m-l))) w:=by intro A l h m ex u dst pos after guard;simp [execOp,Instr.sliceAt,run_underlying dU,ex,u,ey hC,Instr.sureAddr]
 cases v<;> simp only[ae.ap] at a9<;> simp only[ix] at aQ<;> try exact absurd aQ.symm bt
 rename_i b off;cases lX:dB E.au ao gk 0 with
 |none=>simp only[lX] at aQ;exact absurd aQ.symm bt
 |some l=>
  cases J:dB E.au ao bY n with
  |none=>simp only[lX,J] at aQ;exact absurd aQ.symm bt
  |some h=>
   cases K:dB E.au ao iE n with
   |none=>simp only[lX,J,K] at aQ;exact absurd aQ.symm bt
   |some m=>
    simp only[lX,J,K,bo,aU.not] at aQ;obtain⟨u,Y⟩:=cV aQ bt;simp only[bm] at u;have ar:=dW u.1.1;have av:=dW u.1.2;have bO:=dW u.2;refine⟨_,Y,?_⟩;cases L:b.ap s.aa with
    |l i=>cases b<;> simp [Loc.ap] at L
    |g d j=>
     rw[L] at a9;obtain⟨ex,cR,df⟩:=a9.mi;have Z:=hj (P:=P) (w:=w) bZ dS N O U (len:=n) (cap:=n) lX J K ar av bO V false;refine bE a3 _ (run _ _ _ _ ex Z) ?_;simp only[ae.ap,L]
     have:(if m=l then(⟨κ.loc d j,off,none⟩:Addr) else(⟨κ.loc d j,off,none⟩:Addr).add (l*sz))=⟨κ.loc d j,if m=l then off else off+l*sz,none⟩:=by
      split
      ·rfl
      ·simp [fT]
     rw[this];exact .cZ d j _ _ _ _ sz cR df (by omega) (.inl rfl)
omit a3 in
theorem ur.left{g:e2}{es:List ae}(h:ur g es)(cB:∀d j,g≠.dt (.g d j)):∀e,e∈es→e.bb=true:=by
 rcases h with h|⟨d,j,e,_⟩
 ·exact h
 ·exact absurd e (cB d j)
omit a3 in
theorem ur.part{g':e2}{es:List ae}(h:∀e,e∈es→e.bb=true)(l n:Nat):ur g' ((es.drop l).take n):=.inl fun e he=>h e (List.mem_of_mem_drop (List.mem_of_mem_take he))
theorem yb{E:Env}(bo:E.F=.not){k:ae→ag→ah}{r:ah}(bt:r≠.fail){ao:Nat→ae}{a:Act}(bZ:wl κ s ao a)(dS:j9 κ E.au){t e:TypeId}{sz:Nat}{x:bB}{y:Operand}{gk bY iE:Option bB}{ab ac M:Option Operand}(dU:P.underlying t=some (.slice e))(hC:e9 P e=some sz)
  (as:cD x y=true)(ad:fu gk ab=true)(af:fu bY ac=true)(N:fu iE M=true)(al:iE.isSome=true→bY.isSome=true)(aQ:jR E ao s k sz (aq E.au ao x) gk bY iE=r):∃fB,k fB s=r∧dK P (.slice t y ab ac M) ty a.eval κ s w fB s:=by
 have a9:=bq bZ dS as;generalize bJ:aq E.au ao x=v at a9 aQ;have run:∀(A:Option Addr) (len cap l h m:Nat),a.eval y=.slice A len cap→(Instr.sliceBounds true len cap (ab.map a.eval) (ac.map a.eval) (M.map a.eval)).run P w=.ok (l,h,m) w→∀dst pos after guard,(execOp a.eval ⟨dst,.slice t y ab ac M,ty,pos,after,guard⟩).run P w=.ok (.value (.slice (if m=l then A else A.map (·.add (l*sz))) (h-l) (m-l))) w:=by intro A len cap l h m ex u dst pos after guard;simp [execOp,Instr.sliceAt,Instr.slice,run_underlying dU,ex,u,ey hC]
 cases v<;> simp only[ae.ap] at a9<;> simp only[jR] at aQ<;> try exact absurd aQ.symm bt
 case cr z es g=>
  cases lX:dB E.au ao gk 0 with
  |none=>simp only[lX] at aQ;exact absurd aQ.symm bt
  |some l=>
   cases B:dB E.au ao bY es.length with
   |none=>simp only[lX,B] at aQ;exact absurd aQ.symm bt
   |some h=>
    simp only[lX,B,bo,aU.not] at aQ;have part:∀(A:Addr) (cap:Nat) (dr:Nat→Value) (g':e2),(es≠[]→A.spot=none)→(∀e,e∈es→e.cells.length=sz)→ur (g'.ap s.aa) ((es.drop l).take (h-l))→
      (∀j,j<(es.flatMap ae.cells).length→κ.F (A.add j)=some (dr j))→(∀(j:Nat) (c:ae),(es.flatMap ae.cells)[j]? =some c→dA κ (s.aa+1) c (dr j))→l≤h→h≤es.length→∀m,h≤m→
      iz κ (s.aa+1) sz (g'.ap s.aa) (h-l) (if m=l then A else A.add (l*sz)) (m-l)→g'.ap s.aa≠.nil→
      dA κ (s.aa+1) ((ae.cr sz ((es.drop l).take (h-l)) g').ap s.aa) (.slice (some (if m=l then A else A.add (l*sz))) (h-l) (m-l)):=by
     intro A cap dr g' O dD H U V aH aw m aI cB I;have hlen:((es.drop l).take (h-l)).length=h-l:=by simp;omega
     simp only[ae.ap];have jo:∀e,e∈(es.drop l).take (h-l)→e∈es:=fun e he=>List.mem_of_mem_drop (List.mem_of_mem_take he)
     have ax:=e4 es sz dD;have am:=e4 _ sz (fun e he=>dD e (jo e he));have ay:∀j,j<(h-l)*sz→((((es.drop l).take (h-l))).flatMap ae.cells)[j]? =(es.flatMap ae.cells)[l*sz+j]?:=by
      intro j df;have az:0<sz:=Nat.pos_of_ne_zero (fun eJ=>by rw[eJ] at df;simp at df);have gr:j/sz<h-l:=Nat.div_lt_of_lt_mul (by rw[et];exact df);have ie:j%sz<sz:=Nat.mod_lt _ az;have ux:j=j/sz*sz+j%sz:=by rw[et];exact(Nat.div_add_mod j sz).symm
      have hle:l+j/sz<es.length:=by omega
      have dM:((es.drop l).take (h-l))[j/sz]? =some es[l+j/sz]:=by rw[List.getElem?_take,if_pos gr,List.getElem?_drop,eI hle]
      have aA:es[l+j/sz]? =some es[l+j/sz]:=eI hle;have f1:=nu _ sz _ _ (fun e he=>dD e (jo e he)) dM (j%sz) ie;have f2:=nu es sz _ _ dD aA (j%sz) ie;rw[←ux] at f1;rw[f1,←f2];congr 1;rw[e5];omega
     by_cases an:m=l
     ·have eJ:h-l=0:=by omega
      rw[if_pos an] at cB ⊢;have aC:(es.drop l).take (h-l)=[]:=by rw[eJ];simp
      rw[aC];rw[eJ] at cB ⊢;exact .cr sz [] _ A _ dr cB (Nat.zero_le _) (fun h=>absurd rfl h) (fun e he=>by simp at he) (.inl fun e he=>by simp at he) (fun j df=>by simp at df) (fun j c a1=>by simp at a1)
     ·rw[if_neg an] at cB ⊢;have key:dA κ (s.aa+1) (ae.cr sz ((es.drop l).take (h-l)) (g'.ap s.aa)) (.slice (some (A.add (l*sz))) ((es.drop l).take (h-l)).length (m-l)):=by
       refine .cr sz _ _ _ _ (fun j=>dr (l*sz+j)) (by rw[hlen];exact cB) (by rw[hlen];omega) (fun e3=>md (O (fun nV=>e3 (by simp [nV]))) _) (fun e he=>dD e (jo e he)) H (fun j df=>?_) (fun j c a1=>?_)
       ·rw[add_add];refine U _ ?_;rw[am,hlen] at df;rw[ax]
        have:h*sz≤es.length*sz:=fO _ aw;have aJ:l*sz+(h-l)*sz=h*sz:=by rw[←e5];congr 1;omega
        omega
       ·have df:=(eA.1 a1).1;rw[am,hlen] at df;rw[ay j df] at a1;exact V _ c a1
      rw[hlen] at key;exact key
    cases iE with
    |none=>
     cases M with
     |some y=>simp [fu] at N
     |none=>
     simp only at aQ;obtain⟨u,Y⟩:=cV aQ bt;rw[bm,bm,bm] at u;have Z:z=sz:=(dj u.1.1.1).symm;subst Z;have ar:=dW u.1.1.2;have av:=dW u.1.2;have ai:=u.2;refine⟨_,Y,?_⟩;rcases a9.ht with⟨rfl,cB,ex⟩|⟨A,cap,dr,ex,cB,dk,O,dD,H,U,V⟩
     ·have I:g=.nil:=by cases g<;> simp_all [e2.ap]
      subst I;simp only[cx,Nat.le_zero_eq] at av;subst av;simp only[Nat.le_zero_eq] at ar;subst ar;have K:=hj (P:=P) (w:=w) bZ dS ad af N (len:=0) (cap:=0) lX B (m:=0) rfl (aB _) (aB _) (aB _) (by simp) true;exact bE a3 _ (run _ _ _ _ _ _ ex K) (by simp;exact .kI z)
     ·have K:=hj (P:=P) (w:=w) bZ dS ad af N (len:=es.length) (cap:=cap) lX B (m:=cap) rfl ar (by omega) (aB _) (by simp) true;refine bE a3 _ (run _ _ _ _ _ _ ex K) ?_;have fp:=fun g' aD aj I=>part A cap dr g' O dD aD U V ar av cap (by omega) aj I
      have dM:(if cap=l then some A else Option.map (fun x=>x.add (l*z)) (some A))=some (if cap=l then A else A.add (l*z)):=by split<;> rfl
      rw[dM];cases g with
      |nil=>simp [e2.ap,iz] at cB
      |any=>exact fp .any (.part (H.left (by simp [e2.ap])) l (h-l)) trivial (by simp [e2.ap])
      |exact=>
       simp only[e2.ap,iz] at cB;subst cB;by_cases J:h=es.length
       ·subst J;simp only[↓reduceIte];exact fp .exact (.part (H.left (by simp [e2.ap])) l _) rfl (by simp [e2.ap])
       ·simp only[J,↓reduceIte];exact fp .any (.part (H.left (by simp [e2.ap])) l (h-l)) trivial (by simp [e2.ap])
      |dt b=>
       by_cases J:l=0∧h=es.length
       ·obtain⟨rfl,rfl⟩:=J;simp only[true_and,↓reduceIte];refine fp (.dt b) (by simpa using H) ?_ (by simp [e2.ap]);simp only[Nat.sub_zero,Nat.zero_mul,Addr.add,↓reduceIte];simpa using cB
       ·have sm:∀e,e∈es→e.bb=true:=by
         simp only[pj,Bool.or_eq_true,bm] at ai;rcases ai with⟨aE,aF⟩|q
         ·exact absurd ⟨dj aE,dj aF⟩ J
         ·exact ed.1 q
        simp only[J,↓reduceIte];exact fp .any (.part sm l (h-l)) trivial (by simp [e2.ap])
    |some aG=>
     cases M with
     |none=>simp [fu] at N
     |some aK=>
     cases L:eX (aq E.au ao aG) with
     |none=>simp only[L] at aQ;cases g<;> simp only at aQ<;> exact absurd aQ.symm bt
     |some m=>
      simp only[L] at aQ;have I:g≠.nil:=by rintro rfl;exact absurd aQ.symm bt
      have ie:(bif Nat.beq sz z&&Nat.ble l h&&Nat.ble h m&&Nat.ble m es.length&&um g es then k (.cr z ((es.drop l).take (h-l)) (if h=m then .exact else .any)) s else .fail)=r:=by cases g<;> first|exact absurd rfl I|exact aQ
      obtain⟨u,Y⟩:=cV ie bt;simp only[bm] at u;have Z:z=sz:=(dj u.1.1.1.1).symm;subst Z;have ar:=dW u.1.1.1.2;have av:=dW u.1.1.2;have bO:=dW u.1.2;have ai:=u.2;refine⟨_,Y,?_⟩;rcases a9.ht with⟨rfl,cB,ex⟩|⟨A,cap,dr,ex,cB,dk,O,dD,H,U,V⟩
      ·exact absurd (by cases g<;> simp_all [e2.ap]) I
      ·have K:=hj (P:=P) (w:=w) bZ dS ad af N (len:=es.length) (cap:=cap) lX B (m:=m) L ar av (by omega) al true;refine bE a3 _ (run _ _ _ _ _ _ ex K) ?_;have sm:∀e,e∈es→e.bb=true:=by
        cases g with
        |dt b=>exact ed.1 ai
        |nil=>exact H.left (by simp [e2.ap])
        |exact=>exact H.left (by simp [e2.ap])
        |any=>exact H.left (by simp [e2.ap])
       have fp:=fun g' aj I=>part A cap dr g' O dD (.part sm l (h-l)) U V ar (by omega) m av aj I
       have dM:(if m=l then some A else Option.map (fun x=>x.add (l*z)) (some A))=some (if m=l then A else A.add (l*z)):=by split<;> rfl
       rw[dM];by_cases J:h=m
       ·subst J;simp only[↓reduceIte];exact fp .exact rfl (by simp [e2.ap])
       ·simp only[J,↓reduceIte];exact fp .any trivial (by simp [e2.ap])
 case cZ b off len cap z=>
  cases lX:dB E.au ao gk 0 with
  |none=>simp only[lX] at aQ;exact absurd aQ.symm bt
  |some l=>
   cases B:dB E.au ao bY len with
   |none=>simp only[lX,B] at aQ;exact absurd aQ.symm bt
   |some h=>
    cases L:dB E.au ao iE cap with
    |none=>simp only[lX,B,L] at aQ;exact absurd aQ.symm bt
    |some m=>
     simp only[lX,B,L,bo,aU.not] at aQ;obtain⟨u,Y⟩:=cV aQ bt;simp only[bm] at u;have Z:z=sz:=(dj u.1.1.1.1).symm;subst Z;have ar:=dW u.1.1.1.2;have av:=dW u.1.1.2;have bO:=dW u.1.2;have tw:=dW u.2;refine⟨_,Y,?_⟩;cases ak:b.ap s.aa with
     |l i=>cases b<;> simp [Loc.ap] at ak
     |g d j=>
      rw[ak] at a9;obtain⟨ex,cR,df⟩:=a9.Il tw;have K:=hj (P:=P) (w:=w) bZ dS ad af N (len:=len) (cap:=cap) lX B L ar av bO al true;refine bE a3 _ (run _ _ _ _ _ _ ex K) ?_;simp only[ae.ap,ak]
      have:(if m=l then some (⟨κ.loc d j,off,none⟩:Addr) else Option.map (fun(x:Addr)=>x.add (l*z)) (some ⟨κ.loc d j,off,none⟩))=some ⟨κ.loc d j,if m=l then off else off+l*z,none⟩:=by
       split
       ·rfl
       ·simp [fT]
      rw[this];exact .cZ d j _ _ _ _ z cR df (by omega) (.inl rfl)
end
theorem yc(l:List Value):∀(n:Nat) (cs:Array Value) (off:Nat),(l.zipIdx n).foldl (fun cs (p:Value×Nat)=>cs.setIfInBounds (off+p.2) p.1) cs=(dN cs.toList (off+n) l).toArray:=by
 induction l with
 |nil=>intro n cs off;simp [dN]
 |cons v l e=>intro n cs off;simp only[List.zipIdx_cons,List.foldl_cons,dN];rw[e (n+1)];congr 1;simp [Array.toList_setIfInBounds,Nat.add_assoc]
theorem pF(C:Array Value)(cs:Array Value)(off:Nat):C.zipIdx.foldl (fun cs (p:Value×Nat)=>cs.setIfInBounds (off+p.2) p.1) cs=(dN cs.toList off C.toList).toArray:=by rw[←Array.foldl_toList,Array.toList_zipIdx,yc];simp
section
variable{P:Program}{ty:TypeId}{ρ:Operand→Value}{κ:bh}{s:ag}{w:World}(a3:cY κ s w)
def kg(place:Nat→Option (Nat×Nat)):List (Nat×Nat×bB)→List (Nat×Operand)→Bool
 |[],[]=>true
 |(off,sz,x)::ea,(i,y)::e=>(place i==some (off,sz))&&cD x y&&kg place ea e
 |_,_=>false
theorem uJ{G:Nat→ae}{ao:Nat→ae}{a:Act}(bZ:wl κ s ao a)(dS:j9 κ G)(place:Nat→Option (Nat×Nat)):∀(ea:List (Nat×Nat×bB)) (A:List (Nat×Operand)) (cs u:List ae) (xs:List Value),
  kg place ea A=true→ej κ (s.aa+1) cs xs→fg G s.aa ao cs ea=some u→∃B,Instr.fill place xs.toArray (A.map fun p=>(p.1,a.eval p.2))=some B.toArray∧ej κ (s.aa+1) u B
 |[],[],cs,u,xs,_,h,bt=>by simp only[fg,bj] at bt;exact⟨xs,rfl,bt ▸ h⟩
 |[],_::_,_,_,_,h,_,_=>by simp [kg] at h
 |_::_,[],_,_,_,h,_,_=>by simp [kg] at h
 |(off,sz,x)::ea,(i,y)::A,cs,u,xs,dd,h,bt=>by
  simp only[kg,bm,beq_iff_eq] at dd;simp only[fg] at bt;have a9:=bq bZ dS dd.1.2;generalize (aq G ao x).ap s.aa=v at a9 bt;cases r:(v.ff&&Nat.beq v.cells.length sz&&Nat.ble (off+sz) cs.length) with
  |false=>rw[r] at bt;simp at bt
  |true=>
   rw[r,bX] at bt;simp only[bm] at r;have bJ:=a9.cells r.1.1;have ar:=dj r.1.2;have av:=dW r.2;have bO:=h.dN bJ (o:=off) (by omega);obtain⟨B,e,F⟩:=uJ bZ dS place ea A _ u _ dd.2 bO bt;refine⟨B,?_,F⟩;have eZ:(a.eval y).cells.size=sz:=by rw[←Array.length_toList,bJ.1,ar]
   have hle:¬(off+(a.eval y).cells.size>xs.toArray.size):=by simp only[List.size_toArray,h.1,eZ];omega
   have H:decide (off+(a.eval y).cells.size>xs.toArray.size)=false:=bR hle;have I:=pF (a.eval y).cells xs.toArray off;simp only[gd,Instr.fill,dd.1.1,eZ,ne_eq,not_true_eq_false,dw,Bool.false_or];rw[←eZ,H];simp only[bS,↓reduceIte];rw[I];exact e
def jT(P:Program)(t:TypeId)(z:List ae):Bool:=
 match (P.info? t).bind (·.zero) with
 |some v=>mJ z v.cells.toList
 |none=>false
theorem kN{t:TypeId}{z:List ae}(h:jT P t z=true)(w:World):∃v,(zeroValue t).run P w=.ok v w∧(∀κ D,ej κ D z v.cells.toList)∧ae.a7 z=true∧∃i,P.info? t=some i∧i.zero=some v:=by
 unfold jT at h;cases bY:P.info? t with
 |none=>simp [bY] at h
 |some i=>
  cases hC:i.zero with
  |none=>simp [bY,hC] at h
  |some v=>simp only[bY,f0,hC] at h;obtain⟨ar,av⟩:=m6 _ _ h;exact⟨v,by simp [zeroValue,typeInfo,bY,hC],ar,av,i,rfl,hC⟩
include a3
theorem uK{v:Value}{t:TypeId}{o:Op}{cs:List ae}(a1:ej κ (s.aa+1) cs v.cells.toList)(h:∀dst pos after guard,(execOp ρ ⟨dst,o,ty,pos,after,guard⟩).run P w=.ok (.value (.pointer (some ⟨w.heap.size,0,none⟩))) (w.alloc (.cells v.cells t))):
  dK P o ty ρ κ s w (.ref (.l s.own.length) 0) (s.new (.cells cs)):=by
 obtain⟨κ',ar,av,bO,dD⟩:=a3.oH cs v.cells t a1 (w':=w.alloc (.cells v.cells t)) rfl rfl rfl rfl;refine⟨_,κ',_,.inl h,av,ar,?_⟩;simp only[ae.ap,Loc.ap];rw[←bO];exact .ref _ _ _ (Nat.lt_succ_self _) dD
theorem yd{t:TypeId}{z:List ae}(hC:jT P t z=true):dK P (.alloc t) ty ρ κ s w (.ref (.l s.own.length) 0) (s.new (.cells z)):=by obtain⟨v,e,ar,_,_⟩:=kN hC w;exact uK a3 (v:=v) (t:=t) (ar _ _) (fun _ _ _ _=>by simp [execOp,Instr.alloc,e,newVar,newRow])
theorem wF{t:TypeId}{x:Operand}{v:ae}(a9:dA κ (s.aa+1) (v.ap s.aa) (ρ x))(bJ:v.ff=true):dK P (.box t x) ty ρ κ s w (.ref (.l s.own.length) 0) (s.new (.cells (v.ap s.aa).cells)):=
 uK a3 (v:=ρ x) (t:=t) (a9.cells (by rw[uC];exact bJ)) (fun _ _ _ _=>by simp [execOp,Instr.box,newVar,newRow])
theorem pG{C:Array Value}{t:TypeId}{o:Op}{cs:List ae}(a1:ej κ (s.aa+1) cs C.toList)(x:Addr→Value)(v:ae)(e:∀κ',gO κ κ' (s.aa+1)→(∀j,j<cs.length→κ'.F ⟨w.heap.size,j,none⟩=C[j]?)→dA κ' (s.aa+1) (v.ap s.aa) (x ⟨w.heap.size,0,none⟩))
  (h:∀dst pos after guard,(execOp ρ ⟨dst,o,ty,pos,after,guard⟩).run P w=.ok (.value (x ⟨w.heap.size,0,none⟩)) (w.alloc (.cells C t))):dK P o ty ρ κ s w v s:=by
 obtain⟨ar,av⟩:=a3.qE (w':=w.alloc (.cells C t)) C t (0,0) rfl rfl rfl rfl;have bK:C.size=cs.length:=by simpa using a1.1
 refine⟨_,_,_,.inl h,av,ar,e _ av.k (fun j df=>?_)⟩;rw[nS (Nat.zero_le _) (by omega),Array.getElem?_eq_getElem (by omega)]
theorem ye{t:TypeId}{x:Operand}{v:ae}(a9:dA κ (s.aa+1) (v.ap s.aa) (ρ x))(bJ:v.ff=true):dK P (.box t x) ty ρ κ s w (.bP (v.ap s.aa).cells) s:=by
 have a1:=a9.cells (by rw[uC];exact bJ);refine pG a3 (t:=t) a1 (fun a=>.pointer (some a)) _ (fun κ' dc h1=>?_) (fun _ _ _ _=>by simp [execOp,Instr.box,newVar,newRow]);refine .bP _ _ (fun j=>(ρ x).cells.getD j undef) rfl (fun j df=>?_) (fun j c df=>?_)
 ·rw[fT rfl];simp only[bf];rw[h1 j df]
  have:j<(ρ x).cells.size:=by have:=a1.1;simp at this;omega
  simp [Array.getD,this]
 ·obtain⟨y,eQ,e⟩:=a1.get df
  have:(ρ x).cells.getD j undef=y:=by
   have h:(ρ x).cells[j]? =some y:=by simpa using eQ
   simp [Array.getD_eq_getD_getElem?,h]
  rw[this];exact e.mono dc
theorem wG{f:Nat}{cs:List bB}{dC:List Operand}{G:Nat→ae}{ao:Nat→ae}{a:Act}(bZ:wl κ s ao a)(dS:j9 κ G)(h:dx cs dC=true):
  dK P (.makeFunc (.func f) #[] dC.toArray) ty a.eval κ s w (.fn f (cs.map fun x=>(aq G ao x).ap s.aa)) s:=by
 have key:∀(cs:List bB) (dC:List Operand),dx cs dC=true→ej κ (s.aa+1) (cs.map fun x=>(aq G ao x).ap s.aa) (dC.map a.eval):=by
  intro cs
  induction cs with
  |nil=>intro dC h;cases dC with
   |nil=>exact .nil _ _
   |cons _ _=>simp [dx] at h
  |cons c cs e=>intro dC h;cases dC with
   |nil=>simp [dx] at h
   |cons y r=>simp only[dx,bm] at h;exact .cons (bq bZ dS h.1) (e r h.2)
 have dc:=key cs dC h;exact bE a3 (.func (.func f) #[] (dC.map a.eval).toArray) (fun _ _ _ _=>by simp [execOp,Instr.makeFunc]) (.fn f _ _ dc.1 dc.2)
theorem py{G:Nat→ae}{ao:Nat→ae}{a:Act}(bZ:wl κ s ao a)(dS:j9 κ G){t:TypeId}{z cs:List ae}{ea:List (Nat×Nat×bB)}{r:List (Nat×Operand)}{jy:Array Field}(dU:P.underlying t=some (.struct jy))(hC:jT P t z=true)
  {pl:Array (Nat×Nat)}(u:(jy.toList.mapM fun f=>(e9 P f.type).map fun n=>(f.offset,n))=some pl.toList)(dd:kg (pl[·]?) ea r=true)(a1:fg G s.aa ao z ea=some cs):
  dK P (.build t r.toArray) ty a.eval κ s w (.agg cs) s:=by
 obtain⟨v,e,ar,_,_⟩:=kN hC w;have y:∀(jy:List Field) (pl:List (Nat×Nat)),(jy.mapM fun f=>(e9 P f.type).map fun n=>(f.offset,n))=some pl→(jy.mapM fun f=>do pure (f.offset,←sizeOf f.type):Sem _).run P w=.ok pl w:=by
  intro jy
  induction jy with
  |nil=>intro pl h;simp at h;subst h;simp
  |cons f jy A=>
   intro pl h;simp only[List.mapM_cons,Option.bind_eq_bind,Option.bind_eq_some_iff,Option.pure_def,bj] at h;obtain⟨p,fp,ea,B,rfl⟩:=h;cases eZ:e9 P f.type with
   |none=>simp [eZ] at fp
   |some n=>
    simp only[eZ,ep,bj] at fp;subst fp
    have:=A ea B;simp only[bind_pure_comp] at this;simp [List.mapM_cons,ey eZ,this]
 have hm:(jy.mapM fun f=>do pure (f.offset,←sizeOf f.type):Sem _).run P w=.ok pl w:=by
  rw[Array.mapM_eq_mapM_toList]
  have:=y jy.toList pl.toList u;simp only[bind_pure_comp] at this;simp [this]
 obtain⟨F,hR,bJ⟩:=uJ bZ dS _ ea r z cs v.cells.toList dd (ar _ _) a1;refine bE a3 (.agg F.toArray) (fun _ _ _ _=>?_) (.agg _ _ bJ.1 bJ.2);simp only[Array.toArray_toList] at hR;simp only[bind_pure_comp] at hm;simp [execOp,Instr.build,e,run_underlying dU,hm,hR]
theorem qa{G:Nat→ae}{ao:Nat→ae}{a:Act}(bZ:wl κ s ao a)(dS:j9 κ G){t el:TypeId}{len sz:Nat}{z cs:List ae}{ea:List (Nat×Nat×bB)}{h:List (Nat×Operand)}(dU:P.underlying t=some (.array len el))(eZ:e9 P el=some sz)(hC:jT P t z=true)
  (dd:kg (fun i=>some (i*sz,sz)) ea h=true)(a1:fg G s.aa ao z ea=some cs):
  dK P (.build t h.toArray) ty a.eval κ s w (.agg cs) s:=by
 obtain⟨v,e,ar,_,_⟩:=kN hC w;obtain⟨r,hR,bJ⟩:=uJ bZ dS _ ea h z cs v.cells.toList dd (ar _ _) a1;refine bE a3 (.agg r.toArray) (fun _ _ _ _=>?_) (.agg _ _ bJ.1 bJ.2);simp only[Array.toArray_toList] at hR;simp [execOp,Instr.build,e,run_underlying dU,ey eZ,hR]
omit a3 in
theorem mK{G:Nat→ae}{ao:Nat→ae}{a:Act}(bZ:wl κ s ao a)(dS:j9 κ G)(sz:Nat):∀(ea:List bB) (r:List Operand) (i:Nat) (es:List ae) (pre:List Value) (rest:List Value),
  dx ea r=true→es=ea.map (fun x=>(aq G ao x).ap s.aa)→(∀e,e∈es→e.ff=true∧e.cells.length=sz)→pre.length=i*sz→rest.length=r.length*sz→
  ∃xs,Instr.fill (fun i=>some (i*sz,sz)) (pre++rest).toArray ((r.zipIdx i).map fun p=>(p.2,a.eval p.1))=some (pre++xs).toArray∧ej κ (s.aa+1) (es.flatMap ae.cells) xs
 |[],[],i,es,pre,rest,_,he,_,_,aQ=>by
  subst he
  have:rest=[]:=by simpa using aQ
  subst this;exact⟨[],by simp [Instr.fill],.nil _ _⟩
 |[],_::_,_,_,_,_,h,_,_,_,_=>by simp [dx] at h
 |_::_,[],_,_,_,_,h,_,_,_,_=>by simp [dx] at h
 |x::ea,y::r,i,es,pre,rest,dd,he,u,fp,aQ=>by
  simp only[dx,bm] at dd;subst he;have a9:=bq bZ dS dd.1;obtain⟨ar,av⟩:=u ((aq G ao x).ap s.aa) (by simp);have bJ:=a9.cells ar;have eZ:(a.eval y).cells.toList.length=sz:=by rw[bJ.1,av]
  have sm:rest.length=sz+r.length*sz:=by rw[aQ,bT,Nat.succ_mul,Nat.add_comm]
  have F:dN (pre++rest) (i*sz) (a.eval y).cells.toList=(pre++(a.eval y).cells.toList)++rest.drop sz:=by
   apply List.ext_getElem?;intro j;rw[gK _ _ _ (by simp only[gu];omega),eZ];by_cases I:j<i*sz
   ·rw[if_neg (by omega),p2,ha (by omega),ha (by omega)]
   ·by_cases H:j<i*sz+sz
    ·rw[if_pos ⟨by omega,H⟩,p2,jW (by omega),ha (by omega),fp]
    ·rw[if_neg (by omega),jW (by omega),jW (by simp only[gu];omega),List.getElem?_drop];congr 1;simp only[gu];omega
  obtain⟨xs,e,fU⟩:=mK bZ dS sz ea r (i+1) _ (pre++(a.eval y).cells.toList) (rest.drop sz) dd.2 rfl (fun e he=>u e (by simp at he ⊢;exact .inr he)) (by simp only[gu,fp,eZ,Nat.succ_mul]) (by simp only[List.length_drop];omega);refine⟨(a.eval y).cells.toList++xs,?_,by simpa using bJ.append fU⟩;have A:(a.eval y).cells.size=sz:=by rw[←Array.length_toList];exact eZ
  have hle:decide (i*sz+(a.eval y).cells.size>(pre++rest).toArray.size)=false:=bR (by simp only[List.size_toArray,gu];omega);have B:=pF (a.eval y).cells (pre++rest).toArray (i*sz);rw[F] at B;simp only[List.zipIdx_cons,gd,Instr.fill,A,ne_eq,not_true_eq_false,dw,Bool.false_or];rw[A] at hle;rw[hle];simp only[bS,↓reduceIte];rw[B,e,p2]
omit a3 in
theorem lp{t el:TypeId}{sz n:Nat}{v:Value}{parts:Array (Nat×Value)}{xs:Array Value}(dU:P.underlying t=some (.slice el))(eZ:e9 P el=some sz)(bJ:(zeroValue el).run P w=.ok v w)(gU:¬(n*sz>2^24))
  (bt:Instr.fill (fun i=>some (i*sz,sz)) ((Array.range (n*sz)).map (v.cells[· % v.cells.size]!)) parts.toList=some xs):(Instr.buildSlice t n parts).run P w=.ok (.slice (some ⟨w.heap.size,0,none⟩) n n) (w.alloc (.cells xs el)):=by
 unfold Instr.buildSlice;simp only[Sem.run_bind,run_underlying dU,Result.andThen_ok,ey eZ];rw[if_neg gU];by_cases eJ:n*sz=0
 ·have nV:(Array.range (n*sz)).map (fun x=>(#[]:Array Value)[x%(#[]:Array Value).size]!)=(Array.range (n*sz)).map (v.cells[· % v.cells.size]!):=by
   rw[eJ];simp
  rw[if_pos eJ];simp only[Sem.run_bind,Sem.run_pure,Result.andThen_ok];rw[nV,bt];simp [newRow]
 ·rw[if_neg eJ];simp only[Sem.run_bind,bJ,Result.andThen_ok,Sem.run_pure];rw[bt];simp [newRow]
theorem qK{G:Nat→ae}{ao:Nat→ae}{a:Act}(bZ:wl κ s ao a)(dS:j9 κ G){t el:TypeId}{sz:Nat}{z:List ae}{ea:List bB}{r:List Operand}(dU:P.underlying t=some (.slice el))(eZ:e9 P el=some sz)(hC:jT P el z=true)(F:z.length=sz)
  (gU:¬(r.length*sz>2^24))(dd:dx ea r=true)(aQ:ae.a7 (ea.map (aq G ao))=true)(bJ:∀e,e∈ea.map (aq G ao)→e.ff=true∧e.cells.length=sz):
  dK P (.buildSlice t r.length (r.zipIdx.map fun p=>(p.2,p.1)).toArray) ty a.eval κ s w (.cr sz (ea.map (aq G ao)) .exact) s:=by
 obtain⟨v,e,ar,_,_⟩:=kN hC w;have B:ea.map (fun x=>(aq G ao x).ap s.aa)=ea.map (aq G ao):=by apply List.map_congr_left;intro x a9;exact jf (ed.1 aQ _ (List.mem_map_of_mem a9)) _
 have N:v.cells.size=sz:=by rw[←Array.length_toList,(ar κ 0).1,F]
 have hlen:(ea.map (aq G ao)).length=r.length:=by
  have:∀(ea:List bB) (r:List Operand),dx ea r=true→ea.length=r.length:=by
   intro ea
   induction ea with
   |nil=>intro r h;cases r<;> simp [dx] at h ⊢
   |cons p ea H=>intro r h;cases r with
    |nil=>simp [dx] at h
    |cons q r=>simp only[dx,bm] at h;simp [H r h.2]
  simp [this ea r dd]
 obtain⟨xs,hR,fU⟩:=mK bZ dS sz ea r 0 (ea.map (aq G ao)) [] ((Array.range (r.length*sz)).map (v.cells[· % v.cells.size]!)).toList dd B.symm bJ (by simp) (by simp);have u:∀dst pos after guard,(execOp a.eval ⟨dst,.buildSlice t r.length (r.zipIdx.map fun p=>(p.2,p.1)).toArray,ty,pos,after,guard⟩).run P w=.ok (.value (.slice (some ⟨w.heap.size,0,none⟩) r.length r.length)) (w.alloc (.cells xs.toArray el)):=by
  intro dst pos after guard;simp only[List.nil_append,Array.toArray_toList] at hR;have I:=lp (parts:=((r.zipIdx.map fun p=>(p.2,p.1)).toArray.map fun p=>(p.1,a.eval p.2))) dU eZ e gU (xs:=xs.toArray) (by rw[Array.toList_map,List.map_map];exact hR)
  have a9:∀(o:Oper),o.op=.buildSlice t r.length (r.zipIdx.map fun p=>(p.2,p.1)).toArray→execOp a.eval o=(do pure (.value (←Instr.buildSlice t r.length ((r.zipIdx.map fun p=>(p.2,p.1)).toArray.map fun p=>(p.1,a.eval p.2)))):Sem Next):=by intro o J;unfold execOp;rw[J]
  rw[a9 _ rfl,Sem.run_bind,I];rfl
 have a1:ej κ (s.aa+1) ((ea.map (aq G ao)).flatMap ae.cells) xs.toArray.toList:=fU;generalize K:Op.buildSlice t r.length (r.zipIdx.map fun p=>(p.2,p.1)).toArray=op at u ⊢;generalize dk:r.length=n at u hlen;generalize O:ea.map (aq G ao)=es at a1 hlen aQ bJ ⊢;clear K dk hR fU B gU dd;refine pG a3 (t:=el) a1 (fun A=>.slice (some A) n n) (.cr sz es .exact) (fun κ' dc h1=>?_) u;simp only[ae.ap,e2.ap];rw[←hlen];refine .cr sz _ .exact _ _ (fun j=>xs.getD j undef) rfl (aB _) (fun _=>rfl) (fun e he=>(bJ e he).2) (.inl fun e he=>ed.1 aQ e he) (fun j df=>?_) (fun j c df=>?_)
 ·rw[fT rfl];simp only[bf];rw[h1 j df];have bK:xs.length=(es.flatMap ae.cells).length:=a1.1
  have:j<xs.length:=by omega
  simp [List.getD,this]
 ·obtain⟨y,eQ,L⟩:=a1.get df
  have:xs.getD j undef=y:=by have M:xs[j]? =some y:=eQ;simp [List.getD,M]
  rw[this];exact L.mono dc
end
theorem wH(c:ae):(Fh c).cells=[c]:=by cases c<;> rfl
theorem fo(sz:Nat):∀(n:Nat) (cs:List ae),(chunk sz n cs).length=n
 |0,_=>rfl
 |n+1,cs=>by simp [chunk,fo sz n]
theorem kh(sz:Nat)(eZ:sz≠0):∀(n:Nat) (cs:List ae),n*sz≤cs.length→(chunk sz n cs).flatMap ae.cells=cs.take (n*sz)∧∀e,e∈chunk sz n cs→e.cells.length=sz
 |0,cs,_=>by simp [chunk]
 |n+1,cs,h=>by
  rw[Nat.succ_mul] at h;obtain⟨ar,av⟩:=kh sz eZ n (cs.drop sz) (by simp;omega);have cR:(nn sz cs).cells=cs.take sz:=by
   unfold nn;split
   ·cases cs with
    |nil=>simp at h
    |cons c cs=>rw[wH];simp
   ·rfl
  have bK:(cs.take sz).length=sz:=by simp;omega
  refine⟨?_,?_⟩
  ·simp only[chunk,List.flatMap_cons];rw[cR,ar,Nat.succ_mul,Nat.add_comm,←List.take_add]
  ·intro e he;simp only[chunk,List.mem_cons] at he;rcases he with rfl |he
   ·rw[cR,bK]
   ·exact av e he
section
variable{P:Program}{ty:TypeId}{ρ:Operand→Value}{κ:bh}{s:ag}{w:World}(a3:cY κ s w)
include a3
theorem tx{v:ae}{x:Operand}(a9:dA κ (s.aa+1) (v.ap s.aa) (ρ x))(dk:isNil v=some false):dK P (.nilCheck x) ty ρ κ s w v s:=by
 refine bE a3 (ρ x) (fun dst pos after guard=>?_) a9;generalize eQ:ρ x=y at a9;generalize bJ:v.ap s.aa=fB at a9;have e:isNil fB=some false:=by
  rw[←bJ];cases v with
  |cr sz es g=>cases g<;> first|exact dk|(simp [isNil] at dk)
  |_=>exact dk
 cases a9<;> simp [isNil] at e<;> simp [execOp,eQ]
omit a3 in
theorem CS{v:ae}(d:Nat):isNil (v.ap d)=isNil v:=by
 cases v with
 |cr sz es g=>cases g<;> rfl
 |_=>rfl
omit a3 in
theorem zH{e:OK}{v:ae}(d:Nat):gS e (v.ap d)=gS e v:=by cases v<;> cases e<;> rfl
def pH(e:OK)(d:TypeDesc):Bool:=
 match e,d with
 |.bool,.bool|.slice,.slice _|.ptr,.pointer _|.func,.func .. |.map,.map .. |.iface,.interface _=>true
 |_,_=>false
omit a3 in
theorem sM(t:TypeId)(X Y:Value):Op.equal t X Y=Op.equalIn (9999+1) t X Y:=rfl
inductive gV:TypeDesc→Value→Value→Bool→Prop
 |bool (a b:Bool):gV .bool (.bool a) (.bool b) (a==b)
 |ON (el:TypeId) (l c:Nat) (B:Option Addr) (l' nK:Nat):gV (.slice el) (.slice none l c) (.slice B l' nK) B.isNone
 |OO (el:TypeId) (a:Addr) (l c l' nK:Nat):gV (.slice el) (.slice (some a) l c) (.slice none l' nK) false
 |aau (el:TypeId) (B:Option Addr):gV (.pointer el) (.pointer none) (.pointer B) B.isNone
 |aav (el:TypeId) (a:Addr):gV (.pointer el) (.pointer (some a)) (.pointer none) false
 |func0 (p r:Array TypeId) (v:Bool):gV (.func p r v) .nilFunc .nilFunc true
 |func1 (p r:Array TypeId) (v:Bool) (f:Fn) (x y:Array Value):gV (.func p r v) .nilFunc (.func f x y) false
 |func2 (p r:Array TypeId) (v:Bool) (f:Fn) (x y:Array Value):gV (.func p r v) (.func f x y) .nilFunc false
 |aaw (k el:TypeId) (B:Option Nat):gV (.map k el) (.map none) (.map B) B.isNone
 |aax (k el:TypeId) (a:Nat):gV (.map k el) (.map (some a)) (.map none) false
 |OP (zI:Array (String×TypeId)) (t:TypeId) (v:Value):gV (.interface zI) .nilIface (.iface t v) false
 |Fm (zI:Array (String×TypeId)) (t:TypeId) (v:Value):gV (.interface zI) (.iface t v) .nilIface false
omit a3 in
theorem gV.run{t:TypeId}{d:TypeDesc}(dU:P.underlying t=some d){X Y:Value}{b:Bool}(h:gV d X Y b):(Op.equal t X Y).run P w=.ok b w:=by rw[sM];generalize (9999:Nat)=n;cases h<;> simp only[Op.equalIn,Sem.run_bind,run_underlying dU,Result.andThen_ok,Sem.run_pure]
omit a3 in
theorem gV.guard{d:TypeDesc}{X Y:Value}{b:Bool}(h:gV d X Y b)(op:BinOp)(t:TypeId)(x y:Operand):(eqGuard op t x y X Y).run P w=.ok () w:=by cases h<;> unfold eqGuard<;> cases op<;> rfl
omit a3 in
theorem gV.gives{t yt:TypeId}{d:TypeDesc}(dU:P.underlying t=some d){x y:Operand}{b:Bool}(neg:Bool)(h:gV d (ρ x) (ρ y) b)(dst:Option Tmp)(pos:String)(after:Array Edge)(guard:Option (Nat×Bool)):
  (execOp ρ ⟨dst,.binOp (if neg then .neq else .eql) t x y yt,ty,pos,after,guard⟩).run P w=.ok (.value (.bool (bif neg then !b else b))) w:=by
 have ar:=h.run (w:=w) dU;have av:=h.guard (P:=P) (w:=w) (if neg then .neq else .eql) t x y;have r:∀(op:BinOp),op=.eql∨op=.neq→binOp op t (ρ x) (ρ y)=match op with
   |.eql=>(do pure (.bool (←Op.equal t (ρ x) (ρ y))):Sem Value)
   |_=>(do pure (.bool (!(←Op.equal t (ρ x) (ρ y)))):Sem Value):=by
  intro op u;generalize ρ x=X at h;generalize ρ y=Y at h;rcases u with rfl |rfl <;> cases h<;> rfl
 cases neg
 ·have e:=r .eql (.inl rfl);simp only[bS,↓reduceIte] at av ⊢;simp only[execOp,Sem.run_bind,av,Result.andThen_ok,e,ar,Sem.run_pure,cond_false]
 ·have e:=r .neq (.inr rfl);simp only[↓reduceIte] at av ⊢;simp only[execOp,Sem.run_bind,av,Result.andThen_ok,e,ar,Sem.run_pure,bX]
omit a3 in
theorem uL(e:OK)(v u:ae)(d:Nat):pw e (v.ap d) (u.ap d)=pw e v u:=by
 cases e with
 |bool=>cases v<;> cases u<;> rfl
 |agg=>cases v<;> cases u<;> rfl
 |_=>simp only[pw,zH,CS]
omit a3 in
theorem sN{D:Nat}{v:ae}{X:Value}(h:dA κ D v X)(dc:gS .slice v=true):∃A l c,X=.slice A l c∧∀b,isNil v=some b→A.isNone=b:=by
 cases v<;> simp [gS] at dc
 case cr sz es g=>
  rcases h.ht with⟨rfl,rfl,rfl⟩|⟨a,cap,dr,rfl,cB,_⟩
  ·exact⟨_,_,_,rfl,fun b e=>by simpa [isNil] using e⟩
  ·refine⟨_,_,_,rfl,fun b e=>?_⟩;cases g<;> simp [isNil,iz] at e cB<;> simp [←e]
 case cZ a off len cap sz=>cases h;exact⟨_,_,_,rfl,fun b e=>by simpa [isNil] using e⟩
omit a3 in
theorem xh{D:Nat}{v:ae}{X:Value}(h:dA κ D v X)(dc:gS .ptr v=true):∃A,X=.pointer A∧∀b,isNil v=some b→A.isNone=b:=by cases h<;> simp [gS] at dc<;> exact⟨_,rfl,fun b e=>by simpa [isNil] using e⟩
omit a3 in
theorem uM{D:Nat}{v:ae}{X:Value}(h:dA κ D v X)(dc:gS .func v=true):(X=.nilFunc∧∀b,isNil v=some b→b=true)∨((∃f x y,X=.func f x y)∧∀b,isNil v=some b→b=false):=by
 cases h<;> simp [gS] at dc
 ·exact .inr ⟨⟨_,_,_,rfl⟩,fun b e=>by simpa [isNil] using e.symm⟩
 ·exact .inl ⟨rfl,fun b e=>by simpa [isNil] using e.symm⟩
omit a3 in
theorem xi{D:Nat}{v:ae}{X:Value}(h:dA κ D v X)(dc:gS .map v=true):∃A,X=.map A∧∀b,isNil v=some b→A.isNone=b:=by cases h<;> simp [gS] at dc<;> exact⟨_,rfl,fun b e=>by simpa [isNil] using e⟩
omit a3 in
theorem sO{D:Nat}{v:ae}{X:Value}(h:dA κ D v X)(dc:gS .iface v=true):(X=.nilIface∧∀b,isNil v=some b→b=true)∨((∃t x,X=.iface t x)∧∀b,isNil v=some b→b=false):=by
 cases h<;> simp [gS] at dc
 ·exact .inr ⟨⟨_,_,rfl⟩,fun b e=>by simpa [isNil] using e.symm⟩
 ·exact .inl ⟨rfl,fun b e=>by simpa [isNil] using e.symm⟩
omit a3 in
theorem JL{D:Nat}{e:OK}{v u:ae}{X Y:Value}{d:TypeDesc}{b:Bool}(cR:pH e d=true)(a9:dA κ D v X)(eQ:dA κ D u Y)(h:pw e v u=some b):gV d X Y b:=by
 have main:e≠.bool→(∀ig,e≠.agg ig)→∃p q,gS e v=true∧gS e u=true∧isNil v=some p∧isNil u=some q∧(p=true∧b=q∧¬(q=true∧e=.iface)∨p=false∧q=true∧b=false):=by
  intro ar av;have H:(bif gS e v&&gS e u then
    match isNil v,isNil u with
    |some true,some b=>bif b&&decide (e=.iface) then none else some b
    |some false,some true=>some false
    |_,_=>none
   else none)=some b:=by
   cases e<;> first|exact absurd rfl ar|exact absurd rfl (av _)|exact h
  cases dc:(gS e v&&gS e u) with
  |false=>rw[dc] at H;simp at H
  |true=>
   rw[dc,bX] at H;rw[bm] at dc;cases bJ:isNil v with
   |none=>rw[bJ] at H;simp at H
   |some p=>
    cases hu:isNil u with
    |none=>rw[bJ,hu] at H;cases p<;> simp at H
    |some q=>
     rw[bJ,hu] at H;refine⟨p,q,dc.1,dc.2,rfl,rfl,?_⟩;cases p
     ·cases q
      ·simp at H
      ·right;simp at H;exact⟨rfl,rfl,H⟩
     ·left
      simp only at H;cases gr:(q&&decide (e=.iface)) with
      |true=>rw[gr] at H;simp at H
      |false=>rw[gr] at H;simp at H gr;exact⟨rfl,H.symm,by simpa using gr⟩
 cases e
 case bool=>
  have L:d=.bool:=by cases d<;> simp [pH] at cR ⊢
  subst L;cases v<;> cases u<;> simp [pw] at h;subst h;rw[a9.gT,eQ.gT];exact .bool _ _
 case agg ig=>cases d<;> simp [pH] at cR
 case slice=>
  obtain⟨el,rfl⟩:∃el,d=.slice el:=by cases d<;> simp [pH] at cR ⊢
  obtain⟨p,q,k1,pI,ka,J,I⟩:=main (by simp) (by simp);obtain⟨A,l,c,rfl,r⟩:=sN a9 k1;obtain⟨B,l',nK,rfl,F⟩:=sN eQ pI;have r:=r p ka;have F:=F q J;rcases I with⟨rfl,rfl,_⟩|⟨rfl,rfl,rfl⟩
  ·cases A<;> simp at r;rw[←F];exact .ON ..
  ·cases A<;> simp at r;cases B<;> simp at F;exact .OO ..
 case ptr=>
  obtain⟨el,rfl⟩:∃el,d=.pointer el:=by cases d<;> simp [pH] at cR ⊢
  obtain⟨p,q,k1,pI,ka,J,I⟩:=main (by simp) (by simp);obtain⟨A,rfl,r⟩:=xh a9 k1;obtain⟨B,rfl,F⟩:=xh eQ pI;have r:=r p ka;have F:=F q J;rcases I with⟨rfl,rfl,_⟩|⟨rfl,rfl,rfl⟩
  ·cases A<;> simp at r;rw[←F];exact .aau ..
  ·cases A<;> simp at r;cases B<;> simp at F;exact .aav ..
 case map=>
  obtain⟨k,el,rfl⟩:∃k el,d=.map k el:=by cases d<;> simp [pH] at cR ⊢
  obtain⟨p,q,k1,pI,ka,J,I⟩:=main (by simp) (by simp);obtain⟨A,rfl,r⟩:=xi a9 k1;obtain⟨B,rfl,F⟩:=xi eQ pI;have r:=r p ka;have F:=F q J;rcases I with⟨rfl,rfl,_⟩|⟨rfl,rfl,rfl⟩
  ·cases A<;> simp at r;rw[←F];exact .aaw ..
  ·cases A<;> simp at r;cases B<;> simp at F;exact .aax ..
 case func=>
  obtain⟨ea,K,oJ,rfl⟩:∃ea K oJ,d=.func ea K oJ:=by cases d<;> simp [pH] at cR ⊢
  obtain⟨p,q,k1,pI,ka,J,I⟩:=main (by simp) (by simp);rcases uM a9 k1 with⟨rfl,r⟩|⟨⟨f,x,y,rfl⟩,r⟩<;> rcases uM eQ pI with⟨rfl,F⟩|⟨⟨wt,kw,tM,rfl⟩,F⟩<;> have r:=r p ka<;> have F:=F q J<;> subst r F<;> simp at I<;> try subst I
  ·exact .func0 ..
  ·exact .func1 ..
  ·exact .func2 ..
 case iface=>
  obtain⟨zI,rfl⟩:∃zI,d=.interface zI:=by cases d<;> simp [pH] at cR ⊢
  obtain⟨p,q,k1,pI,ka,J,I⟩:=main (by simp) (by simp);rcases sO a9 k1 with⟨rfl,r⟩|⟨⟨f,x,rfl⟩,r⟩<;> rcases sO eQ pI with⟨rfl,F⟩|⟨⟨wt,kw,rfl⟩,F⟩<;> have r:=r p ka<;> have F:=F q J<;> subst r F<;> simp at I<;> try subst I
  ·exact .OP ..
  ·exact .Fm ..
theorem zJ{neg:Bool}{v:ae}{t yt:TypeId}{x:Operand}{zI:Array (String×TypeId)}{op:BinOp}{z:ae}(u:op=if neg then .neq else .eql)(dU:P.underlying t=some (.interface zI))(a9:dA κ (s.aa+1) (v.ap s.aa) (ρ x))(a1:ρ (.const .nilIface)=.nilIface)(h:x2 neg v=some z):dK P (.binOp op t x (.const .nilIface) yt) ty ρ κ s w z s:=by
 cases v<;> simp [x2] at h
 case iface OF fB=>
  subst h;obtain⟨y,A,eQ⟩:=dA.CP (t:=OF) (v:=fB) a9;have bt:gV (.interface zI) (ρ x) (ρ (.const .nilIface)) false:=by rw[A,a1];exact .Fm zI OF y
  have:=bE (P:=P) (ty:=ty) (o:=.binOp op t x (.const .nilIface) yt) (ρ:=ρ) a3 (v:=.bool neg) _ (fun dst pos after guard=>by have:=bt.gives (ty:=ty) (w:=w) (yt:=yt) dU neg dst pos after guard;rw[u];exact this) (by cases neg<;> exact .bool _)
  exact this
 case hF=>
  subst h;have ex:ρ x=.nilIface:=by simp only[ae.ap] at a9;generalize ρ x=q at a9;cases a9;rfl
  refine bE a3 (.bool (!neg)) (fun dst pos after guard=>?_) (.bool _);subst u;have dM:(Op.equal t .nilIface .nilIface).run P w=.ok true w:=by rw[sM];generalize (9999:Nat)=n;simp only[Op.equalIn,Sem.run_bind,run_underlying dU,Result.andThen_ok,Sem.run_pure]
  cases neg
  ·have e:(eqGuard .eql t x (.const .nilIface) .nilIface .nilIface).run P w=.ok () w:=by
    unfold eqGuard;cases x<;> rfl
   have r:binOp .eql t .nilIface .nilIface=(do pure (.bool (←Op.equal t .nilIface .nilIface)):Sem Value):=rfl;simp only[execOp,bS,↓reduceIte,ex,a1,Sem.run_bind,e,Result.andThen_ok,r,dM,Sem.run_pure,g1]
  ·have e:(eqGuard .neq t x (.const .nilIface) .nilIface .nilIface).run P w=.ok () w:=by
    unfold eqGuard;cases x<;> rfl
   have r:binOp .neq t .nilIface .nilIface=(do pure (.bool (!(←Op.equal t .nilIface .nilIface))):Sem Value):=rfl;simp only[execOp,↓reduceIte,ex,a1,Sem.run_bind,e,Result.andThen_ok,r,dM,Sem.run_pure,g3]
theorem Im{e:OK}{b neg:Bool}{v u:ae}{t yt:TypeId}{x y:Operand}{d:TypeDesc}{op:BinOp}(r:op=if neg then .neq else .eql)(dU:P.underlying t=some d)(cR:pH e d=true)
  (a9:dA κ (s.aa+1) (v.ap s.aa) (ρ x))(eQ:dA κ (s.aa+1) (u.ap s.aa) (ρ y))(h:pw e v u=some b):dK P (.binOp op t x y yt) ty ρ κ s w (.bool (bif neg then !b else b)) s:=by
 subst r;exact bE a3 _ ((JL cR a9 eQ (by rw[uL];exact h)).gives dU neg) (.bool _)
end
end Go.Ab
end
