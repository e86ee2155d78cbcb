/- What the claim's texts say of a part of the evaluator and of the program's functions: for every argument that they name. -/
import Derived.Calls
import Derived.Below
import Derived.Laws.World
import Derived.Laws.Cells
import Derived.Laws.Entries
import Derived.Laws.IdiomCopy
import Derived.Laws.Strings
import Derived.Laws.Slices
import Derived.Laws.MakeOwn
import Derived.Laws.BytesArg
set_option linter.unusedSectionVars false
set_option linter.unusedSimpArgs false
set_option linter.unusedVariables false
section
namespace Go
theorem aT{p:Prop}[Decidable p](h:¬p):decide p=false:=decide_eq_false h
theorem a9{p:Prop}[Decidable p](h:p):decide p=true:=decide_eq_true h
theorem bZ{α:Type _}{i:Nat}{a:α}{l:List α}:l[i]? =some a↔∃h:i < l.length,l[i]=a:=List.getElem?_eq_some_iff
theorem cw{α:Type _}{β:Type _}{us:List α}(f:α→β):(us.map f).length=us.length:=List.length_map f
theorem eZ{α:Type _}{l m:List α}{i:Nat}(h:i < l.length):(l ++ m)[i]? =l[i]?:=List.getElem?_append_left h
theorem cQ{n m:Nat}(h:n.beq m=true):n=m:=Nat.eq_of_beq_eq_true h
theorem bD(a b:Bool):((a && b)=true)=(a=true∧b=true):=Bool.and_eq_true a b
theorem bM{α:Type _}(a b:α):(some a=some b)=(a=b):=Option.some.injEq a b
theorem eM{α:Type _}{l:List α}{i j:Nat}(h:i≠j){a:α}:(l.set i a)[j]? =l[j]?:=List.getElem?_set_ne h
theorem dT{α:Type _}{a:α}{l:List α}{i:Nat}:(a :: l).drop (i+1)=l.drop i:=List.drop_succ_cons
theorem d8{α:Type _}{l:List α}{i:Nat}(h:i < l.length):l[i]? =some l[i]:=List.getElem?_eq_getElem h
theorem dy{n m:Nat}(h:n≤m):n.ble m=true:=Nat.ble_eq_true_of_le h
theorem dL{n m:Nat}(h:n.ble m=true):n≤m:=Nat.le_of_ble_eq_true h
theorem co:(false=true)=False:=Bool.false_eq_true
theorem cP{α:Type _}{a:α}{us:List α}:(a :: us).length=us.length+1:=List.length_cons
theorem dp{α:Type _}{us bs:List α}:(us ++ bs).length=us.length+bs.length:=List.length_append
theorem jV{p:Prop}[Decidable p]:(decide p=true)=p:=decide_eq_true_eq
theorem pY{α:Type _}(us bs cs:List α):us ++ bs ++ cs=us ++ (bs ++ cs):=List.append_assoc us bs cs
theorem bW{α:Type _}{l:List α}:l.drop 0=l:=List.drop_zero
theorem jc{α:Type _}{β:Type _}(a:α)(f:α→Option β):(some a).bind f=f a:=Option.bind_some a f
theorem e9{α:Type _}{β:Type _}(a:α)(f:α→β):(some a).map f=some (f a):=Option.map_some a f
theorem eh{α:Type _}:([]:List α).length=0:=List.length_nil
theorem oR{α:Type _}{a:α}:¬a∈([]:List α):=List.not_mem_nil
theorem nd{α:Type _}{l:List α}{n:Nat}(h:n < l.length):l[n]∈l:=List.getElem_mem h
end Go
namespace Go.Ab
inductive Loc where
 | l (i:Nat)
 | g (d i:Nat)
 deriving DecidableEq,Inhabited
inductive Gr where
 | nil | exact | any
 | bJ (a:Loc)
 deriving Inhabited
inductive AV where
 | dead
 | bool (b:Bool)
 | int (k:IntKind) (n:Int)
 | str (s:List Nat)
 | sl (sz:Nat) (es:List AV) (g:Gr)
 | ck (a:Loc) (off len cap sz:Nat)
 | ref (a:Loc) (off:Nat)
 | bO (cs:List AV)
 | iz
 | fn (f:Nat) (ez:List AV)
 | fR
 | map (a:Loc)
 | dI
 | iface (t:Nat) (v:AV)
 | fa
 | agg (cs:List AV)
 | cS (vs:List AV)
 deriving Inhabited
inductive bg where
 | cells (cs:List AV)
 | tok (n:Nat)
 | map (es:List (AV×AV))
 | gone
 deriving Inhabited
structure St where
 own:List bg
 up:List (List bg)
 ro:List (List bg)
 deriving Inhabited
def St.aa(s:St):Nat:=s.up.length+s.ro.length
inductive ax where
 | fail
 | ok (v:AV) (s:St)
 | panic (v:AV) (s:St)
 deriving Inhabited
inductive Tr where
 | e
 | n (l:Tr) (v:AV) (r:Tr)
 deriving Inhabited
def Tr.get:Tr→Nat→AV
 | .e,_=>.dead
 | .n l v r,i=>bif Nat.beq i 0 then v else bif Nat.beq (i % 2) 1 then l.get ((i - 1) / 2) else r.get ((i - 1) / 2)
def Tr.kN:Nat→Nat→AV→(Tr→ax)→Tr→ax
 | 0,_,_,_,_=>.fail
 | d+1,i,v,k, .e=>
  bif Nat.beq i 0 then k (.n .e v .e)
  else bif Nat.beq (i % 2) 1 then Tr.kN d ((i - 1) / 2) v (fun l=>k (.n l .dead .e)) .e
  else Tr.kN d ((i - 1) / 2) v (fun r=>k (.n .e .dead r)) .e
 | d+1,i,v,k, .n l x r=>
  bif Nat.beq i 0 then k (.n l v r)
  else bif Nat.beq (i % 2) 1 then Tr.kN d ((i - 1) / 2) v (fun l=>k (.n l x r)) l
  else Tr.kN d ((i - 1) / 2) v (fun r=>k (.n l x r)) r
inductive Mk where
 | e
 | n (l:Mk) (b:Bool) (r:Mk)
 deriving Inhabited
def Tr.lZ:Mk→(Tr→ax)→Tr→ax
 | .e,k,_=>k .e
 | .n ml _ mr,k, .e=>Tr.lZ ml (fun l=>Tr.lZ mr (fun r=>k (.n l .dead r)) .e) .e
 | .n ml b mr,k, .n l v r=>Tr.lZ ml (fun l=>Tr.lZ mr (fun r=>k (.n l (bif b then v else .dead) r)) r) l
inductive bG where
 | t (n:Nat)
 | c (v:AV)
 | g (n:Nat)
 | at(t b off:Nat)
 | Jm (b off:Nat)
 deriving Inhabited
inductive KD where
 | int (k:IntKind) | str | bool
 deriving DecidableEq,Inhabited
inductive EK where
 | bool | slice | ptr | func | map | iface
 | agg (ks:List KD)
 deriving DecidableEq,Inhabited
inductive ib where
 | move (x:bG)
 | tM (x:bG)
 | pick (c a b:bG)
 | alloc (zero:List AV)
 | dO (x:bG)
 | jE (x:bG)
 | build (zero:List AV) (parts:List (Nat×Nat×bG))
 | buildSlice (sz:Nat) (parts:List bG)
 | load (n:Option Nat) (a:bG)
 | store (n:Nat) (a v:bG)
 | nilCheck (x:bG)
 | bin (op:BinOp) (x y:bG)
 | eq (neg:Bool) (e:EK) (x y:bG)
 | un (op:UnOp) (x:bG)
 | oE (k:IntKind) (x:bG)
 | sG (x:bG)
 | f6 (x:bG)
 | ji (x:bG)
 | dD (t:Nat) (x:bG)
 | i5 (f:Nat) (ez:List bG)
 | makeSlice (zero:List AV) (bytes:Nat) (l c:bG)
 | gu (x:bG) (lo hi:Option bG)
 | slice (sz:Nat) (x:bG) (lo hi mx:Option bG)
 | fieldAddr (off:Nat) (a:bG)
 | field (off:Nat) (n:Option Nat) (x:bG)
 | gh (sz:Nat) (x i:bG)
 | gz (sz len:Nat) (x i:bG)
 | cO (x i:bG)
 | sH (sz len:Nat) (n:Option Nat) (x i:bG)
 | extract (x:bG) (i:Nat)
 | call (f:Nat) (args:List bG)
 | cV (f:bG) (args:List bG)
 | jI (f:Nat) (args:List bG)
 | pc (f:bG) (args:List bG)
 | len (str:Bool) (x:bG)
 | append (sz bytes:Nat) (at_:Option bG) (s x:bG)
 | copy (sz:Nat) (d s:bG)
 | min (xs:List bG)
 | max (xs:List bG)
 | makeMap (at_:Option bG)
 | mB (kd:KD) (m k v:bG)
 | lookup (kd:KD) (zero:AV) (ok:Bool) (m k:bG)
 | w7 (neg:Bool) (x:bG)
 | kO (ks:List (Option Nat×bG)) (f:Nat) (args:List bG)
 | lF (ks:List (Option Nat×bG)) (f:bG) (args:List bG)
 | kG (sz len:Nat) (x:bG) (lo hi mx:Option bG)
 | mc (sz bytes:Nat) (at_:Option bG) (s x:bG)
 | nf (sz bytes:Nat) (at_:Option bG) (s x:bG)
 | iD (sz:Nat) (parts:List bG)
 | kP (sz bytes:Nat) (s x:bG)
 | no
 deriving Inhabited
structure cJ where
 dst:Option Nat
 guard:Option (Nat×Bool)
 op:ib
 deriving Inhabited
inductive ae where
 | skip
 | region (re:Option (List (bG×Nat×bG×Nat))) (ops:List cJ)
 | seq (a b:ae)
 | mask (m:Mk) (a:ae)
 | cond (c:bG) (thn els:ae)
 | block (id:Nat) (body:ae)
 | loop (aK:Mk) (body:ae)
 | exit (id:Nat)
 | scope (body:ae)
 | ret
 deriving Inhabited
inductive Bo where
 | t (n:Nat)
 | cell (a:Nat) (n:Option Nat)
 deriving Inhabited
structure bT where
 np:Nat
 nt:Nat
 results:List Bo
 aK:Bool
 body:ae
 deriving Inhabited
mutual
def AV.bo:AV→Bool
 | .ck .. | .ref .. | .map _=>false
 | .sl _ _ (.bJ _)=>false
 | .bO cs | .fn _ cs | .agg cs | .cS cs=>AV.ba cs
 | .iface _ v=>v.bo
 | _=>true
def AV.ba:List AV→Bool
 | []=>true
 | v :: vs=>v.bo && AV.ba vs
end
def Loc.low(d:Nat):Loc→Bool
 | .l _=>false
 | .g e _=>Nat.ble e d
mutual
def AV.low(d:Nat):AV→Bool
 | .ck a _ _ _ _=>a.low d
 | .ref a _=>a.low d
 | .map a=>a.low d
 | .sl _ _ (.bJ a)=>a.low d
 | .bO cs | .fn _ cs | .agg cs | .cS cs=>AV.nN d cs
 | .iface _ v=>v.low d
 | _=>true
def AV.nN(d:Nat):List AV→Bool
 | []=>true
 | v :: vs=>v.low d && AV.nN d vs
end
def Loc.av(d:Nat):Loc→Loc
 | .l i=>.g d i
 | a=>a
def Gr.av(d:Nat):Gr→Gr
 | .bJ a=>.bJ (a.av d)
 | g=>g
def AV.av(d:Nat):AV→AV
 | .sl sz es g=>.sl sz es (g.av d)
 | .ck a off len cap sz=>.ck (a.av d) off len cap sz
 | .ref a off=>.ref (a.av d) off
 | .map a=>.map (a.av d)
 | v=>v
def AV.cells:AV→List AV
 | .agg cs=>cs
 | v=>[v]
def YK:AV→AV
 | .agg xs=>.agg [.agg xs]
 | c=>c
def DE(sz:Nat)(cs:List AV):AV:=
 match sz with
 | 1=>YK (cs.getD 0 .dead)
 | _=>.agg (cs.take sz)
def chunk(sz:Nat):Nat→List AV→List AV
 | 0,_=>[]
 | n+1,cs=>DE sz cs :: chunk sz n (cs.drop sz)
def St.get(s:St):Loc→Option bg
 | .l i=>s.own[i]?
 | .g d i=>if d=s.aa then s.own[i]? else if d < s.aa then((s.up ++ s.ro)[s.aa - 1 - d]?).bind (·[i]?) else none
def St.set(s:St)(a:Loc)(o:bg):Option St:=
 match a with
 | .l i=>some {s with own:=s.own.set i o}
 | .g d i=>
  if d=s.aa then some {s with own:=s.own.set i o}
  else if d < s.aa∧s.ro.length≤d then some {s with up:=s.up.modify (s.aa - 1 - d) (·.set i o)}
  else none
def St.At(s:St):Loc→Bool
 | .l _=>true
 | .g d _=>d=s.aa
def St.iR(s:St)(a:Loc)(vs:List AV):Bool:=
 s.At a || AV.ba vs || (match a with
  | .g d _=>AV.nN d vs
  | .l _=>false)
def St.new(s:St)(o:bg):St:={s with own:=s.own ++ [o]}
def St.gK(s:St)(a:Loc)(o:bg):Option (Loc×St):=
 match a with
 | .l _=>some (.l s.own.length,s.new o)
 | .g d _=>
  if d=s.aa then some (.l s.own.length,s.new o)
  else if d < s.aa∧s.ro.length≤d then
   match s.up[s.aa - 1 - d]? with
   | some l=>some (.g d l.length,{s with up:=s.up.modify (s.aa - 1 - d) (· ++ [o])})
   | none=>none
  else none
def pZ:Loc→Loc→Bool
 | .l i, .l j=>Nat.beq i j
 | .g d i, .g e j=>Nat.beq d e && Nat.beq i j
 | _,_=>false
def oZ:AV→Nat→AV
 | .ref a o,off=>.ref a (o+off)
 | _,_=>.dead
def w9:AV→AV→Nat→AV
 | .ref a o, .ref a' o',off=>bif pZ a a' && Nat.beq o (o'+off) then .ref a o else .dead
 | _,_,_=>.dead
theorem Ma{a b:Loc}(h:pZ a b=true):a=b:=by
 cases a <;> cases b <;> simp [pZ] at h
 ·rw[h]
 ·rw[h.1,h.2]
theorem YL(x y:AV)(off:Nat):w9 x y off= .dead∨(w9 x y off=x∧w9 x y off=oZ y off):=by
 cases x <;> cases y <;> try exact .inl rfl
 ·rename_i a o a' o'
  have e:w9 (.ref a o) (.ref a' o') off=bif pZ a a' && Nat.beq o (o'+off) then .ref a o else .dead:=rfl
  rw[e]
  cases h:pZ a a' && Nat.beq o (o'+off) with
  | false=>exact .inl rfl
  | true=>
   simp only[bD] at h
   have h1:=Ma h.1
   have h2:=cQ h.2
   subst h1 h2
   exact .inr ⟨rfl,rfl⟩
def aM(G:Nat→AV)(fr:Nat→AV):bG→AV
 | .t n=>fr n
 | .c v=>v
 | .g n=>G n
 | .at t b off=>w9 (fr t) (fr b) off
 | .Jm b off=>oZ (fr b) off
def ng(fr:Tr)(d:Option Nat)(v:AV)(k:Tr→ax):ax:=
 match d with
 | some n=>fr.kN 12 n v k
 | none=>k fr
structure a6 where
 v0:AV→(AV→ax)→ax
 v1:AV→(AV→ax)→ax
 l:List AV→(List AV→ax)→ax
 s:St→(St→ax)→ax
def a6.not:a6:={v0:=fun v k=>k v,v1:=fun v k=>k v,l:=fun v k=>k v,s:=fun v k=>k v}
def eE:AV→Option Nat
 | .int _ n=>if 0≤n then some n.toNat else none
 | _=>none
def dl(s:St):AV→Option (Nat×List AV)
 | .sl sz es (.bJ _)=>if AV.ba es then some (sz,es) else none
 | .sl sz es _=>some (sz,es)
 | .str bs=>some (1,bs.map fun b=>.int .u8 (b:Nat))
 | .ck a off len _ sz=>
  match s.get a with
  | some (.cells cs)=>let es:=chunk sz len (cs.drop off);if AV.ba es && Nat.ble (off+len * sz) cs.length && !Nat.beq sz 0 then some (sz,es) else none
  | _=>none
 | _=>none
def ke:List AV→List AV→Option Bool
 | [],[]=>some true
 | .int k a :: xs, .int k' b :: ys=>if k=k' then(ke xs ys).map ((a == b) && ·) else none
 | .bool a :: xs, .bool b :: ys=>(ke xs ys).map ((a == b) && ·)
 | .str a :: xs, .str b :: ys=>(ke xs ys).map ((a == b) && ·)
 | _,_=>none
def md:List Nat→List Nat→Bool
 | _,[]=>false
 | [],_ :: _=>true
 | a :: x,b :: y=>Nat.blt a b || (Nat.beq a b && md x y)
def gV(op:BinOp)(k:IntKind)(a b:Int):Option AV:=
 match op with
 | .add=>some (.int k (k.wrap (a+b)))
 | .sub=>some (.int k (k.wrap (a - b)))
 | .mul=>some (.int k (k.wrap (a * b)))
 | .quo=>if b=0 then none else some (.int k (k.wrap (a.tdiv b)))
 | .rem=>if b=0 then none else some (.int k (a.tmod b))
 | .and=>some (.int k (k.wrap (BitVec.ofInt k.bits a &&& BitVec.ofInt k.bits b).toNat))
 | .or=>some (.int k (k.wrap (BitVec.ofInt k.bits a ||| BitVec.ofInt k.bits b).toNat))
 | .xor=>some (.int k (k.wrap (BitVec.ofInt k.bits a ^^^ BitVec.ofInt k.bits b).toNat))
 | .andNot=>some (.int k (k.wrap (BitVec.ofInt k.bits a &&& ~~~BitVec.ofInt k.bits b).toNat))
 | .eql=>some (.bool (a == b))
 | .neq=>some (.bool (a != b))
 | .lss=>some (.bool (a < b))
 | .leq=>some (.bool (a≤b))
 | .gtr=>some (.bool (a > b))
 | .geq=>some (.bool (a≥b))
 | _=>none
def qP(op:BinOp)(k:IntKind)(a b:Int):Option AV:=
 if b < 0 then none else
 match op with
 | .shl=>some (.int k (k.wrap (a * 2 ^ (min b.toNat k.bits))))
 | .shr=>some (.int k (a.fdiv (2 ^ (min b.toNat k.bits))))
 | _=>none
def xa(op:BinOp)(x y:List Nat):Option AV:=
 match op with
 | .add=>if Nat.ble (x.length+y.length) 1099511627776 then some (.str (x ++ y)) else none
 | .eql=>some (.bool (x == y))
 | .neq=>some (.bool (!(x == y)))
 | .lss=>some (.bool (md x y))
 | .leq=>some (.bool (md x y || x == y))
 | .gtr=>some (.bool (!(md x y || x == y)))
 | .geq=>some (.bool (!md x y))
 | _=>none
def isNil:AV→Option Bool
 | .iz | .fR | .dI | .fa=>some true
 | .sl _ _ .nil=>some true
 | .sl _ _ .exact | .sl _ _ .any | .sl _ _ (.bJ _) | .ck .. | .ref .. | .bO _ | .fn .. | .map _ | .iface ..=>some false
 | _=>none
def ij:EK→AV→Bool
 | .slice, .sl .. | .slice, .ck ..=>true
 | .ptr, .iz | .ptr, .ref .. | .ptr, .bO _=>true
 | .func, .fR | .func, .fn ..=>true
 | .map, .dI | .map, .map _=>true
 | .iface, .fa | .iface, .iface ..=>true
 | _,_=>false
def gW:List KD→List AV→Bool
 | [],[]=>true
 | .int k :: ks, .int k' _ :: xs=>decide (k'=k) && gW ks xs
 | .str :: ks, .str _ :: xs=>gW ks xs
 | .bool :: ks, .bool _ :: xs=>gW ks xs
 | _,_=>false
def tE(e:EK)(x y:AV):Option Bool:=
 match e with
 | .bool=>
  match x,y with
  | .bool a, .bool b=>some (a == b)
  | _,_=>none
 | .agg ks=>
  match x,y with
  | .agg xs, .agg ys=>bif gW ks xs && gW ks ys then ke xs ys else none
  | _,_=>none
 | e=>
  bif ij e x && ij e y then
   match isNil x,isNil y with
   | some true,some b=>bif b && decide (e= .iface) then none else some b
   | some false,some true=>some false
   | _,_=>none
  else none
def Au(neg:Bool):AV→Option AV
 | .fa=>some (.bool (!neg))
 | .iface ..=>some (.bool neg)
 | _=>none
def au(op:BinOp)(x y:AV):Option AV:=
 match op,x,y with
 | .shl, .int k a, .int _ b=>qP .shl k a b
 | .shr, .int k a, .int _ b=>qP .shr k a b
 | op, .int k a, .int k' b=>if k=k' then gV op k a b else none
 | op, .str a, .str b=>xa op a b
 | _,_,_=>none
def kL(op:UnOp)(x:AV):Option AV:=
 match op,x with
 | .neg, .int k n=>some (.int k (k.wrap (0 - n)))
 | .xor, .int k n=>some (.int k (k.wrap (BitVec.ofInt k.bits (if k.signed then -1 else k.max) ^^^ BitVec.ofInt k.bits n).toNat))
 | .not, .bool b=>some (.bool (!b))
 | _,_=>none
def min2(x y:AV):Option AV:=
 match x,y with
 | .int k a, .int _ b=>some (.int k (if b < a then b else a))
 | _,_=>none
def max2(x y:AV):Option AV:=
 match x,y with
 | .int k a, .int _ b=>some (.int k (if b > a then b else a))
 | _,_=>none
def DF(f:AV→AV→Option AV):AV→List AV→Option AV
 | x,[]=>some x
 | x,y :: ys=>(f x y).bind fun z=>DF f z ys
def cL(G:Nat→AV)(fr:Nat→AV)(o:Option bG)(DG:Nat):Option Nat:=
 match o with
 | none=>some DG
 | some x=>eE (aM G fr x)
def mQ(es:List AV):Option (List Nat):=
 match es with
 | []=>some []
 | .int .u8 n :: es=>if n.toNat < 256 then(mQ es).map (n.toNat :: ·) else none
 | _=>none
def di{α:Type}(cs:List α)(off:Nat)(vs:List α):List α:=
 match vs with
 | []=>cs
 | v :: vs=>di (cs.set off v) (off+1) vs
def AV.fF:AV→Bool
 | .dead | .cS _=>false
 | _=>true
def AV.dU:AV→Bool
 | .dead | .cS _ | .agg _=>false
 | _=>true
def fc(G:Nat→AV)(d:Nat)(fr:Nat→AV):List AV→List (Nat×Nat×bG)→Option (List AV)
 | cs,[]=>some cs
 | cs,(off,sz,x) :: ps=>
  let v:=(aM G fr x).av d
  bif v.fF && Nat.beq v.cells.length sz && Nat.ble (off+sz) cs.length then fc G d fr (di cs off v.cells) ps else none
def xb(G:Nat→AV)(fr:Nat→AV):bG×Nat×bG×Nat→Bool
 | (x,n,y,m)=>
  match aM G fr x,aM G fr y with
  | .ref (.l i) o, .ref (.l j) q=> !Nat.beq i j || Nat.ble (o+n) q || Nat.ble (q+m) o
  | .bO _, .ref ..=>true
  | _,_=>false
inductive AX where
 | norm | exit (id:Nat) | ret | panic (v:AV)
 deriving Inhabited
abbrev KK:=AX→Tr→St→ax
abbrev SS:=Tr→St→KK→ax
def c9(g:SS)(k:KK):KK:=fun x fr s=>
 match x with
 | .norm=>g fr s k
 | x=>k x fr s
def cA(m:Mk)(g:SS)(k:KK):KK:=fun x fr s=>
 match x with
 | .norm=>Tr.lZ m (fun fr=>g fr s k) fr
 | x=>k x fr s
def bu(id:Nat)(k:KK):KK:=fun x fr s=>
 match x with
 | .exit j=>bif Nat.beq j id then k .norm fr s else k (.exit j) fr s
 | x=>k x fr s
def cY(step:SS)(aK:Mk):Nat→SS
 | 0,_,_,_=>.fail
 | n+1,fr,s,k=>step fr s (cA aK (cY step aK n) k)
structure Env where
 F:a6
 aP:Nat→AV
 call:Nat→List AV→St→ax
 loop:SS→Mk→SS
def Loc.same:Loc→Loc→Bool
 | .l i, .l j=>Nat.beq i j
 | .g d i, .g e j=>Nat.beq d e && Nat.beq i j
 | _,_=>false
def Gr.same:Gr→Gr→Bool
 | .nil, .nil | .exact, .exact | .any, .any=>true
 | .bJ a, .bJ b=>a.same b
 | _,_=>false
mutual
def AV.same:AV→AV→Bool
 | .dead, .dead | .iz, .iz | .fR, .fR | .dI, .dI | .fa, .fa=>true
 | .bool a, .bool b=>a == b
 | .int k a, .int k' b=>decide (k=k') && a == b
 | .str a, .str b=>a == b
 | .sl z a g, .sl z' b g'=>Nat.beq z z' && g.same g' && AV.oS a b
 | .ck a x y z q, .ck a' x' y' z' q'=>a.same a' && Nat.beq x x' && Nat.beq y y' && Nat.beq z z' && Nat.beq q q'
 | .ref a x, .ref a' x'=>a.same a' && Nat.beq x x'
 | .bO a, .bO b=>AV.oS a b
 | .fn f a, .fn f' b=>Nat.beq f f' && AV.oS a b
 | .map a, .map b=>a.same b
 | .iface t v, .iface t' v'=>Nat.beq t t' && v.same v'
 | .agg a, .agg b=>AV.oS a b
 | .cS a, .cS b=>AV.oS a b
 | _,_=>false
def AV.oS:List AV→List AV→Bool
 | [],[]=>true
 | a :: as,b :: bs=>a.same b && AV.oS as bs
 | _,_=>false
end
def jJ(G:Nat→AV)(fr:Nat→AV):Option bG→Option Loc
 | none=>some (.l 0)
 | some x=>
  match aM G fr x with
  | .ref a _=>some a
  | .map a=>some a
  | _=>none
def tN:AV→AV→Option Bool
 | .int k a, .int k' b=>if k=k' then some (a == b) else none
 | .str a, .str b=>some (a == b)
 | .bool a, .bool b=>some (a == b)
 | _,_=>none
def isKey:KD→AV→Bool
 | .int k, .int k' _=>decide (k'=k)
 | .str, .str _=>true
 | .bool, .bool _=>true
 | _,_=>false
def findKey(k:AV):List (AV×AV)→Option (Option AV)
 | []=>some none
 | (x,v) :: es=>
  match tN k x with
  | some true=>some (some v)
  | some false=>findKey k es
  | none=>none
def putKey(k v:AV):List (AV×AV)→Option (List (AV×AV))
 | []=>some [(k,v)]
 | (x,u) :: es=>
  match tN k x with
  | some true=>some ((x,v) :: es)
  | some false=>(putKey k v es).map ((x,u) :: ·)
  | none=>none
section
variable(E:Env)(fr:Nat→AV)(s:St)(k kp:AV→St→ax)
def oV(v:Option AV):ax:=
 match v with
 | some v=>E.F.v1 v fun v=>k v s
 | none=>.fail
def fm(m:Option Nat)(cs:List AV):ax:=
 match m with
 | none=>match cs with
  | c :: _=>E.F.v0 c fun v=>k v s
  | []=>.fail
 | some n=>bif Nat.ble n cs.length then E.F.v1 (.agg (cs.take n)) fun v=>k v s else .fail
def lG(a:Loc)(off:Nat)(vs:List AV):ax:=
 match s.get a with
 | some (.cells cs)=>
  bif Nat.ble (off+vs.length) cs.length && s.iR a vs && vs.all AV.dU then
   E.F.l (di cs off vs) fun cs=>
   match s.set a (.cells cs) with
   | some s=>E.F.s s fun s=>k .dead s
   | none=>.fail
  else .fail
 | _=>.fail
def me(x:AV)(lo hi:Option bG):ax:=
 match x with
 | .str bs=>
  match cL E.aP fr lo 0,cL E.aP fr hi bs.length with
  | some l,some h=>bif Nat.ble l h && Nat.ble h bs.length then E.F.v1 (.str ((bs.drop l).take (h - l))) fun v=>k v s else .fail
  | _,_=>.fail
 | _=>.fail
def uV(g:Gr)(l h:Nat)(es:List AV):Bool:=
 match g with
 | .bJ _=>(Nat.beq l 0 && Nat.beq h es.length) || AV.ba es
 | _=>true
def tO(g:Gr)(es:List AV):Bool:=
 match g with
 | .bJ _=>AV.ba es
 | _=>true
def mC(z:Nat)(x:AV)(lo hi mx:Option bG):ax:=
 match x with
 | .sl sz es g=>
  match cL E.aP fr lo 0,cL E.aP fr hi es.length with
  | some l,some h=>
   match mx with
   | none=>
    bif Nat.beq z sz && Nat.ble l h && Nat.ble h es.length && uV g l h es then
     E.F.v1 (.sl sz ((es.drop l).take (h - l)) (match g with
      | .nil=>.nil
      | .exact=>if h=es.length then .exact else .any
      | .bJ a=>if l=0∧h=es.length then .bJ a else .any
      | .any=>.any)) fun v=>k v s
    else .fail
   | some x=>
    match eE (aM E.aP fr x),g with
    | _, .nil=>.fail
    | some m,_=>bif Nat.beq z sz && Nat.ble l h && Nat.ble h m && Nat.ble m es.length && tO g es then E.F.v1 (.sl sz ((es.drop l).take (h - l)) (if h=m then .exact else .any)) fun v=>k v s else .fail
    | _,_=>.fail
  | _,_=>.fail
 | .ck a off len cap sz=>
  match cL E.aP fr lo 0,cL E.aP fr hi len,cL E.aP fr mx cap with
  | some l,some h,some m=>
   bif Nat.beq z sz && Nat.ble l h && Nat.ble h m && Nat.ble m cap && Nat.ble len cap then E.F.v1 (.ck a (if m=l then off else off+l * sz) (h - l) (m - l) sz) fun v=>k v s else .fail
  | _,_,_=>.fail
 | _=>.fail
def fC(q bytes:Nat)(b:Loc)(x y:AV):ax:=
 match dl s y with
 | none=>.fail
 | some (z,new)=>
  match x with
  | .sl sz es g=>
   bif Nat.beq z q && Nat.beq sz q && Nat.ble ((es.length+new.length) * bytes) 1099511627776 then
    match new with
    | []=>k (.sl sz es g) s
    | _ :: _=>
     match g with
     | .nil | .exact=>
      match s.gK b (.tok (es.length+new.length)) with
      | some (l,s)=>E.F.v1 (.sl sz (es ++ new) (.bJ l)) fun v=>E.F.s s fun s=>k v s
      | none=>.fail
     | .bJ a=>
      match s.get a with
      | some (.tok n)=>
       bif Nat.beq n es.length && (new.flatMap AV.cells).all AV.dU then
        match s.set a (.tok (es.length+new.length)) with
        | some s=>E.F.v1 (.sl sz (es ++ new) (.bJ a)) fun v=>E.F.s s fun s=>k v s
        | none=>.fail
       else .fail
      | _=>.fail
     | .any=>.fail
   else .fail
  | .ck a off len cap sz=>
   match s.get a with
   | some (.cells cs)=>
    bif Nat.beq z q && Nat.beq sz q && Nat.ble (len+new.length) cap && Nat.ble (off+(len+new.length) * sz) cs.length && s.iR a new && (new.flatMap AV.cells).all AV.dU then
     E.F.l (di cs (off+len * sz) (new.flatMap AV.cells)) fun cs=>
     match s.set a (.cells cs) with
     | some s=>E.F.v1 (.ck a off (len+new.length) cap sz) fun v=>E.F.s s fun s=>k v s
     | none=>.fail
    else .fail
   | _=>.fail
  | _=>.fail
def Av(s:St)(l:Loc)(vs:List AV):Bool:=
 match l with
 | .l _=>AV.nN s.aa vs
 | .g d _=>AV.nN d vs
def mR(q bytes:Nat)(b:Loc)(x y:AV):ax:=
 match y with
 | .sl z new _=>
  match x with
  | .sl sz es g=>
   bif Nat.beq z q && Nat.beq sz q && Nat.ble ((es.length+new.length) * bytes) 1099511627776 then
    match new with
    | []=>.fail
    | _ :: _=>
     match g with
     | .nil=>
      bif Av s b new then
       match s.gK b (.tok (es.length+new.length)) with
       | some (l,s)=>E.F.v1 (.sl sz (es ++ new) (.bJ l)) fun v=>E.F.s s fun s=>k v s
       | none=>.fail
      else .fail
     | .bJ a=>
      match s.get a with
      | some (.tok n)=>
       bif Nat.beq n es.length && (new.flatMap AV.cells).all AV.dU && Av s a new then
        match s.set a (.tok (es.length+new.length)) with
        | some s=>E.F.v1 (.sl sz (es ++ new) (.bJ a)) fun v=>E.F.s s fun s=>k v s
        | none=>.fail
       else .fail
      | _=>.fail
     | _=>.fail
   else .fail
  | _=>.fail
 | _=>.fail
def mS(q bytes:Nat)(x y:AV):ax:=
 match dl s y with
 | none=>.fail
 | some (z,new)=>
  match new with
  | []=>.fail
  | _ :: _=>
   match x with
   | .sl sz [] .nil=>
    bif Nat.beq z q && Nat.beq sz q && Nat.ble (new.length * bytes) 1099511627776 && (new.flatMap AV.cells).all AV.dU then
     E.F.l (new.flatMap AV.cells) fun cs=>E.F.v1 (.ck (.l s.own.length) 0 new.length 0 q) fun v=>E.F.s (s.new (.cells cs)) fun s=>k v s
    else .fail
   | .ck (.l i) 0 len 0 sz=>
    match s.own[i]? with
    | some (.cells cs)=>
     bif Nat.beq z q && Nat.beq sz q && Nat.beq cs.length (len * q) && !Nat.beq len 0 && Nat.ble ((len+new.length) * bytes) 1099511627776 && (new.flatMap AV.cells).all AV.dU && !Nat.beq q 0 then
      E.F.l (cs ++ new.flatMap AV.cells) fun cs=>E.F.v1 (.ck (.l s.own.length) 0 (len+new.length) 0 q) fun v=>E.F.s {s with own:=s.own.set i .gone ++ [.cells cs]} fun s=>k v s
     else .fail
    | _=>.fail
   | _=>.fail
def p0(sz:Nat)(x:AV)(i:AV):ax:=
 match eE i with
 | none=>.fail
 | some i=>
  match x with
  | .sl z es _=>
   bif Nat.beq z sz then
    match es[i]? with
    | some e=>E.F.v1 (.bO e.cells) fun v=>k v s
    | none=>.fail
   else .fail
  | .ck a off len _ z=>bif Nat.beq z sz && Nat.blt i len then E.F.v1 (.ref a (off+i * sz)) fun v=>k v s else .fail
  | _=>.fail
def kQ(sz len:Nat)(x:AV)(i:AV):ax:=
 match eE i with
 | none=>.fail
 | some i=>
  bif Nat.blt i len then
   match x with
   | .bO cs=>E.F.v1 (.bO (cs.drop (i * sz))) fun v=>k v s
   | .ref a off=>E.F.v1 (.ref a (off+i * sz)) fun v=>k v s
   | _=>.fail
  else .fail
def cV(f:Nat)(args:List AV):ax:=
 match E.call f args s with
 | .ok v s'=>bif Nat.beq s'.aa s.aa then k v s' else .fail
 | .panic v s'=>kp v s'
 | .fail=>.fail
def cellsOf(v:AV):Option (List AV):=
 match v with
 | .bO cs=>some cs
 | .ref a off=>
  match s.get a with
  | some (.cells cs)=>some (cs.drop off)
  | _=>none
 | _=>none
def du(s:St)(n:Option Nat)(v:AV):Option (List AV):=(cellsOf s v).map fun cs=>cs.take (n.getD 1)
def rf:Option (List AV)→Option (List AV)→Bool
 | some a,some b=>AV.oS a b
 | _,_=>false
def i6(xs:List (Option Nat×AV))(f:Nat)(args:List AV):ax:=
 cV E s (fun v s'=>bif xs.all fun x=>rf (du s x.1 x.2) (du s' x.1 x.2) then k v s' else .fail) kp f args
def i9(f:Nat)(args:List AV):ax:=
 bif AV.ba args then
  match E.call f args {own:=[],up:=[],ro:=[]} with
  | .ok v _=>bif v.bo then k v s else .fail
  | _=>.fail
 else .fail
def fK(n:Option Nat)(v:AV):ax:=
 match v with
 | .bO cs=>fm E s k n cs
 | .ref a off=>
  match s.get a with
  | some (.cells cs)=>fm E s k n (cs.drop off)
  | _=>.fail
 | _=>.fail
def jj(off:Nat)(v:AV):ax:=
 match v with
 | .bO cs=>E.F.v1 (.bO (cs.drop off)) fun v=>k v s
 | .ref a o=>E.F.v1 (.ref a (o+off)) fun v=>k v s
 | _=>.fail
def pd(off:Nat)(n:Option Nat)(v:AV):ax:=
 match v with
 | .agg cs=>fm E s k n (cs.drop off)
 | _=>.fail
def kR(v i:AV):ax:=
 match v with
 | .str bs=>
  match eE i with
  | some i=>
   match bs[i]? with
   | some b=>E.F.v1 (.int .u8 b) fun v=>k v s
   | none=>.fail
  | none=>.fail
 | _=>.fail
def nh(sz len:Nat)(n:Option Nat)(v i:AV):ax:=
 match v with
 | .agg cs=>
  match eE i with
  | some i=>bif Nat.blt i len then fm E s k n (cs.drop (i * sz)) else .fail
  | none=>.fail
 | _=>.fail
def mT(i:Nat)(v:AV):ax:=
 match v with
 | .cS vs=>oV E s k vs[i]?
 | _=>.fail
def xc(str:Bool)(v:AV):ax:=
 match str,v with
 | true, .str bs=>E.F.v1 (.int .i64 bs.length) fun v=>k v s
 | false, .sl _ es _=>E.F.v1 (.int .i64 es.length) fun v=>k v s
 | false, .ck _ _ n _ _=>E.F.v1 (.int .i64 n) fun v=>k v s
 | _,_=>.fail
def copyV(d x:AV):ax:=
 match d with
 | .ck a off len _ sz=>
  match dl s x with
  | some (z,es)=>
   match s.get a with
   | some (.cells cs)=>
    bif Nat.beq z sz && Nat.ble (off+len * sz) cs.length && ((es.take (min es.length len)).flatMap AV.cells).all AV.dU then
     E.F.l (di cs off ((es.take (min es.length len)).flatMap AV.cells)) fun cs=>
     match s.set a (.cells cs) with
     | some s=>E.F.v1 (.int .i64 (min es.length len:Nat)) fun v=>E.F.s s fun s=>k v s
     | none=>.fail
    else .fail
   | _=>.fail
  | none=>.fail
 | _=>.fail
def pf(q:Nat)(d x:AV):ax:=
 match d with
 | .ck a off len cap sz=>bif Nat.beq sz q then copyV E s k (.ck a off len cap sz) x else .fail
 | _=>.fail
def ri(zero:List AV)(bytes:Nat)(l c:AV):ax:=
 match eE l with
 | some l=>
  match eE c with
  | some c=>
   bif Nat.ble l c && Nat.ble (c * bytes) 1099511627776 then
    E.F.l (List.replicate c zero).flatten fun cs=>E.F.v1 (.ck (.l s.own.length) 0 l c zero.length) fun v=>E.F.s (s.new (.cells cs)) fun s=>k v s
   else .fail
  | none=>.fail
 | none=>.fail
def iS(n:Nat)(a v:AV):ax:=
 match a with
 | .ref a off=>bif v.fF && Nat.beq v.cells.length n then lG E s k a off v.cells else .fail
 | _=>.fail
def mU(d:IntKind)(v:AV):ax:=
 match v with
 | .int _ n=>E.F.v1 (.int d (d.wrap n)) fun v=>k v s
 | _=>.fail
def p5(v:AV):ax:=
 match v with
 | .str bs=>k (.str bs) s
 | _=>.fail
def iE(v:AV):ax:=
 match v with
 | .str bs=>E.F.v1 (.sl 1 (bs.map fun b=>.int .u8 (b:Nat)) .any) fun v=>k v s
 | _=>.fail
def jk(v:AV):ax:=
 match v with
 | .str _=>.fail
 | v=>
  match dl s v with
  | some (_,es)=>oV E s k ((mQ es).map .str)
  | none=>.fail
def tP(c a b:AV):ax:=
 match c with
 | .bool t=>E.F.v0 (bif t then a else b) fun v=>k v s
 | _=>.fail
def kS(v:AV):ax:=
 match isNil v with
 | some false=>E.F.v0 v fun v=>k v s
 | _=>.fail
def qQ(v:AV):ax:=
 match v with
 | .ck (.l i) off len cap sz=>
  match s.own[i]? with
  | some (.cells cs)=>
   let es:=chunk sz len (cs.drop off)
   bif AV.ba es && Nat.ble (off+len * sz) cs.length && !Nat.beq sz 0 then
    E.F.v1 (.sl sz es (if len=cap then .exact else .any)) fun v=>E.F.s {s with own:=s.own.set i .gone} fun s=>k v s
   else .fail
  | _=>.fail
 | _=>.fail
def jl(sz:Nat)(es:List AV):ax:=
 bif AV.ba es && es.all (fun e=>e.fF && Nat.beq e.cells.length sz) then E.F.v1 (.sl sz es .exact) fun v=>k v s else .fail
def mf(sz:Nat)(es:List AV):ax:=
 bif AV.nN s.aa es && es.all (fun e=>e.fF && Nat.beq e.cells.length sz) then
  E.F.v1 (.sl sz es (.bJ (.l s.own.length))) fun v=>E.F.s (s.new (.tok es.length)) fun s=>k v s
 else .fail
def og(f:AV)(args:List AV):ax:=
 match f with
 | .fn f ez=>E.F.l (args ++ ez) fun args=>cV E s k kp f args
 | _=>.fail
def mg(f:AV)(args:List AV):ax:=
 match f with
 | .fn f ez=>E.F.l (args ++ ez) fun args=>i9 E s k f args
 | _=>.fail
def ni(xs:List (Option Nat×AV))(f:AV)(args:List AV):ax:=
 match f with
 | .fn f ez=>E.F.l (args ++ ez) fun args=>i6 E s k kp xs f args
 | _=>.fail
def oh(f:AV→AV→Option AV)(xs:List AV):ax:=
 match xs with
 | x :: xs=>oV E s k (DF f x xs)
 | []=>.fail
def eA(q bytes:Nat)(b:Option Loc)(x y:AV):ax:=
 match b with
 | some b=>fC E s k q bytes b x y
 | none=>.fail
def nQ(q bytes:Nat)(b:Option Loc)(x y:AV):ax:=
 match x with
 | .sl sz es g=>eA E s k q bytes b (.sl sz es g) y
 | _=>.fail
def p7(q bytes:Nat)(b:Option Loc)(x y:AV):ax:=
 match b with
 | some b=>mR E s k q bytes b x y
 | none=>.fail
def kf(z n:Nat)(x:AV)(lo hi mx:Option bG):ax:=
 match x with
 | .ref a off=>
  match cL E.aP fr lo 0,cL E.aP fr hi n,cL E.aP fr mx n with
  | some l,some h,some m=>
   bif Nat.ble l h && Nat.ble h m && Nat.ble m n then E.F.v1 (.ck a (if m=l then off else off+l * z) (h - l) (m - l) z) fun v=>k v s else .fail
  | _,_,_=>.fail
 | _=>.fail
def mV(b:Option Loc):ax:=
 match b with
 | some b=>
  match s.gK b (.map []) with
  | some (l,s)=>E.F.v1 (.map l) fun v=>E.F.s s fun s=>k v s
  | none=>.fail
 | none=>.fail
def mh(kd:KD)(m x v:AV):ax:=
 match m with
 | .map a=>
  match s.get a with
  | some (.map es)=>
   bif isKey kd x && v.fF && s.iR a [x,v] then
    match putKey x v es with
    | some es=>
     match s.set a (.map es) with
     | some s=>E.F.s s fun s=>k .dead s
     | none=>.fail
    | none=>.fail
   else .fail
  | _=>.fail
 | _=>.fail
def entriesOf:AV→Option (List (AV×AV))
 | .dI=>some []
 | .map a=>
  match s.get a with
  | some (.map es)=>some es
  | _=>none
 | _=>none
def mi(kd:KD)(zero:AV)(ok:Bool)(m x:AV):ax:=
 bif isKey kd x then
  match entriesOf s m with
  | some es=>
   match findKey x es with
   | some (some v)=>E.F.v1 (bif ok then .cS [v, .bool true] else v) fun v=>k v s
   | some none=>E.F.v1 (bif ok then .cS [zero, .bool false] else zero) fun v=>k v s
   | none=>.fail
  | none=>.fail
 else .fail
def bp(op:ib):ax:=
 match op with
 | .move x=>E.F.v0 (aM E.aP fr x) fun v=>k v s
 | .pick c a b=>tP E s k (aM E.aP fr c) (aM E.aP fr a) (aM E.aP fr b)
 | .alloc zero=>E.F.v1 (.ref (.l s.own.length) 0) fun v=>E.F.s (s.new (.cells zero)) fun s=>k v s
 | .dO x=>bif (aM E.aP fr x).fF then E.F.v1 (.bO ((aM E.aP fr x).av s.aa).cells) fun v=>k v s else .fail
 | .jE x=>bif (aM E.aP fr x).fF then E.F.l ((aM E.aP fr x).av s.aa).cells fun cs=>E.F.v1 (.ref (.l s.own.length) 0) fun v=>E.F.s (s.new (.cells cs)) fun s=>k v s else .fail
 | .build zero parts=>oV E s k ((fc E.aP s.aa fr zero parts).map .agg)
 | .buildSlice sz parts=>jl E s k sz (parts.map (aM E.aP fr))
 | .tM x=>qQ E s k (aM E.aP fr x)
 | .load n a=>fK E s k n (aM E.aP fr a)
 | .store n a v=>iS E s k n (aM E.aP fr a) ((aM E.aP fr v).av s.aa)
 | .nilCheck x=>kS E s k (aM E.aP fr x)
 | .bin op x y=>oV E s k (au op (aM E.aP fr x) (aM E.aP fr y))
 | .eq neg e x y=>oV E s k ((tE e (aM E.aP fr x) (aM E.aP fr y)).map fun b=>.bool (bif neg then !b else b))
 | .un op x=>oV E s k (kL op (aM E.aP fr x))
 | .oE d x=>mU E s k d (aM E.aP fr x)
 | .sG x=>p5 s k (aM E.aP fr x)
 | .f6 x=>jk E s k (aM E.aP fr x)
 | .ji x=>iE E s k (aM E.aP fr x)
 | .dD t x=>E.F.v1 (.iface t ((aM E.aP fr x).av s.aa)) fun v=>k v s
 | .i5 f ez=>E.F.v1 (.fn f (ez.map fun x=>(aM E.aP fr x).av s.aa)) fun v=>k v s
 | .makeSlice zero bytes l c=>ri E s k zero bytes (aM E.aP fr l) (aM E.aP fr c)
 | .gu x lo hi=>me E fr s k (aM E.aP fr x) lo hi
 | .slice z x lo hi mx=>mC E fr s k z (aM E.aP fr x) lo hi mx
 | .fieldAddr off a=>jj E s k off (aM E.aP fr a)
 | .field off n x=>pd E s k off n (aM E.aP fr x)
 | .gh sz x i=>p0 E s k sz (aM E.aP fr x) (aM E.aP fr i)
 | .gz sz len x i=>kQ E s k sz len (aM E.aP fr x) (aM E.aP fr i)
 | .cO x i=>kR E s k (aM E.aP fr x) (aM E.aP fr i)
 | .sH sz len n x i=>nh E s k sz len n (aM E.aP fr x) (aM E.aP fr i)
 | .extract x i=>mT E s k i (aM E.aP fr x)
 | .call f args=>E.F.l (args.map fun x=>(aM E.aP fr x).av s.aa) fun args=>cV E s k kp f args
 | .cV f args=>og E s k kp (aM E.aP fr f) (args.map fun x=>(aM E.aP fr x).av s.aa)
 | .jI f args=>E.F.l (args.map fun x=>(aM E.aP fr x).av s.aa) fun args=>i9 E s k f args
 | .pc f args=>mg E s k (aM E.aP fr f) (args.map fun x=>(aM E.aP fr x).av s.aa)
 | .len b x=>xc E s k b (aM E.aP fr x)
 | .append q bytes b x y=>eA E s k q bytes (jJ E.aP fr b) (aM E.aP fr x) (aM E.aP fr y)
 | .copy q d x=>pf E s k q (aM E.aP fr d) (aM E.aP fr x)
 | .min xs=>oh E s k min2 (xs.map fun x=>(aM E.aP fr x).av s.aa)
 | .max xs=>oh E s k max2 (xs.map fun x=>(aM E.aP fr x).av s.aa)
 | .makeMap b=>mV E s k (jJ E.aP fr b)
 | .mB kd m x v=>mh E s k kd (aM E.aP fr m) ((aM E.aP fr x).av s.aa) ((aM E.aP fr v).av s.aa)
 | .lookup kd zero ok m x=>mi E s k kd zero ok (aM E.aP fr m) ((aM E.aP fr x).av s.aa)
 | .kO ks f args=>E.F.l (args.map fun x=>(aM E.aP fr x).av s.aa) fun args=>i6 E s k kp (ks.map fun x=>(x.1,aM E.aP fr x.2)) f args
 | .lF ks f args=>ni E s k kp (ks.map fun x=>(x.1,aM E.aP fr x.2)) (aM E.aP fr f) (args.map fun x=>(aM E.aP fr x).av s.aa)
 | .w7 neg x=>oV E s k (Au neg (aM E.aP fr x))
 | .kG z n x lo hi mx=>kf E fr s k z n (aM E.aP fr x) lo hi mx
 | .nf q bytes b x y=>p7 E s k q bytes (jJ E.aP fr b) (aM E.aP fr x) (aM E.aP fr y)
 | .iD sz parts=>mf E s k sz (parts.map fun x=>(aM E.aP fr x).av s.aa)
 | .kP q bytes x y=>mS E s k q bytes (aM E.aP fr x) (aM E.aP fr y)
 | .mc q bytes b x y=>nQ E s k q bytes (jJ E.aP fr b) (aM E.aP fr x) (aM E.aP fr y)
 | .no=>.fail
end
def p8(g:Option (Nat×Bool))(fr:Tr)(k:Bool→ax):ax:=
 match g with
 | none=>k true
 | some (t,want)=>
  match fr.get t with
  | .bool b=>k (b == want)
  | .cS _=>k false
  | _=>.fail
def fp(E:Env):List cJ→Tr→St→(Tr→St→ax)→(AV→Tr→St→ax)→ax
 | [],fr,s,fin,_=>fin fr s
 | o :: os,fr,s,fin,vM=>
  p8 o.guard fr fun w=>
   bif w then bp E fr.get s (fun v s=>ng fr o.dst v fun fr=>fp E os fr s fin vM) (fun v s=>vM v fr s) o.op
   else ng fr o.dst (.cS []) fun fr=>fp E os fr s fin vM
def exec(E:Env):ae→SS
 | .skip,fr,s,k=>k .norm fr s
 | .region none ops,fr,s,k=>fp E ops fr s (fun fr s=>k .norm fr s) (fun _ _ _=>.fail)
 | .region (some re) ops,fr,s,k=>
  bif re.all (xb E.aP fr.get) then fp E ops fr s (fun fr s=>k .norm fr s) (fun _ _ _=>.fail) else .fail
 | .seq a b,fr,s,k=>exec E a fr s (c9 (exec E b) k)
 | .mask m a,fr,s,k=>Tr.lZ m (fun fr=>exec E a fr s k) fr
 | .cond c a b,fr,s,k=>
  match aM E.aP fr.get c with
  | .bool t=>bif t then exec E a fr s k else exec E b fr s k
  | _=>.fail
 | .block id c,fr,s,k=>exec E c fr s (bu id k)
 | .loop aK c,fr,s,k=>Tr.lZ aK (fun fr=>E.loop (exec E c) aK fr s k) fr
 | .exit id,fr,s,k=>k (.exit id) fr s
 | .scope c,fr,s,k=>exec E c fr s k
 | .ret,fr,s,k=>k .ret fr s
def jW(s:St)(i off len cap sz:Nat):Option AV:=
 match s.own[i]? with
 | some (.cells cs)=>let es:=chunk sz len (cs.drop off);if AV.ba es && Nat.ble (off+len * sz) cs.length && !Nat.beq sz 0 then some (.sl sz es (if len=cap then .exact else .any)) else none
 | _=>none
def dE(s:St):AV→Option AV
 | .ck (.l i) off len cap sz=>jW s i off len cap sz
 | .ck (.g d i) off len cap sz=>if d=s.aa then jW s i off len cap sz else if d < s.aa then some (.ck (.g d i) off len cap sz) else none
 | .ref (.g d i) off=>if d < s.aa then some (.ref (.g d i) off) else none
 | .sl sz es (.bJ (.l _))=>if AV.ba es then some (.sl sz es .any) else none
 | .sl sz es (.bJ (.g d i))=>if d < s.aa then some (.sl sz es (.bJ (.g d i))) else if AV.ba es then some (.sl sz es .any) else none
 | .map (.g d i)=>if d < s.aa then some (.map (.g d i)) else none
 | v=>if v.bo then some v else none
def iT{α β:Type}(f:α→Option β):List α→Option (List β)
 | []=>some []
 | x :: xs=>(f x).bind fun y=>(iT f xs).map fun ys=>y :: ys
def freeze(s:St):AV→Option AV
 | .agg cs=>(iT (dE s) cs).map .agg
 | v=>dE s v
def xd(fr:Tr)(s:St):Bo→Option AV
 | .t n=>some (fr.get n)
 | .cell a n=>
  match fr.get a with
  | .ref a off=>
   match s.get a,n with
   | some (.cells cs),none=>cs[off]?
   | some (.cells cs),some n=>if Nat.ble (off+n) cs.length then some (.agg ((cs.drop off).take n)) else none
   | _,_=>none
  | _=>none
def xe:List AV→AV
 | [v]=>v
 | vs=>.cS vs
def finish(F:a6)(fn:bT)(fr:Tr)(s:St):ax:=
 match iT (xd fr s) fn.results with
 | some vs=>
  if fn.aK then F.l (vs.map (AV.av s.aa)) fun vs=>.ok (xe vs) s
  else
   match iT (freeze s) vs with
   | some vs=>
    match s.up with
    | own :: up=>F.l vs fun vs=>F.s {own,up,ro:=s.ro} fun s=>.ok (xe vs) s
    | []=>.fail
   | none=>.fail
 | none=>.fail
def ah7(F:a6)(fn:bT):KK:=fun x fr s=>
 match x with
 | .norm=>finish F fn fr s
 | .ret=>finish F fn fr s
 | _=>.fail
def aR:List AV→Nat→Tr→(Tr→ax)→ax
 | [],_,fr,k=>k fr
 | v :: vs,i,fr,k=>fr.kN 12 i v fun fr=>aR vs (i+1) fr k
def call(F:a6)(T:Nat→Option bT)(G:Nat→AV)(X:Nat→List AV→St→ax):Nat→Nat→List AV→St→ax
 | 0,_,_,_=>.fail
 | n+1,f,args,s=>
  match T f with
  | none=>X f args s
  | some fn=>
   bif Nat.beq args.length fn.np then
    aR args 0 .e fun fr=>exec {F,aP:=G,call:=call F T G X n,loop:=fun step aK=>cY step aK n} fn.body fr
     (if fn.aK then s else {own:=[],up:=s.own :: s.up,ro:=s.ro})
     (ah7 F fn)
   else .fail
theorem Loc.kT{a b:Loc}:a.same b=true↔a=b:=by
 cases a <;> cases b <;> simp [Loc.same]
theorem Gr.kT{a b:Gr}:a.same b=true↔a=b:=by
 cases a <;> cases b <;> simp [Gr.same,Loc.kT]
mutual
theorem AV.kT:∀(a b:AV),a.same b=true↔a=b
 | .dead,b=>by cases b <;> simp [AV.same]
 | .iz,b=>by cases b <;> simp [AV.same]
 | .fR,b=>by cases b <;> simp [AV.same]
 | .dI,b=>by cases b <;> simp [AV.same]
 | .fa,b=>by cases b <;> simp [AV.same]
 | .bool a,b=>by cases b <;> simp [AV.same]
 | .int k a,b=>by cases b <;> simp [AV.same]
 | .str a,b=>by cases b <;> simp [AV.same]
 | .sl z a g,b=>by cases b <;> simp [AV.same,Gr.kT,AV.lH a,and_assoc];intro _;exact And.comm
 | .ck a x y z q,b=>by cases b <;> simp [AV.same,Loc.kT,and_assoc]
 | .ref a x,b=>by cases b <;> simp [AV.same,Loc.kT]
 | .bO a,b=>by cases b <;> simp [AV.same,AV.lH a]
 | .fn f a,b=>by cases b <;> simp [AV.same,AV.lH a]
 | .map a,b=>by cases b <;> simp [AV.same,Loc.kT]
 | .iface t v,b=>by cases b <;> simp [AV.same,AV.kT v]
 | .agg a,b=>by cases b <;> simp [AV.same,AV.lH a]
 | .cS a,b=>by cases b <;> simp [AV.same,AV.lH a]
theorem AV.lH:∀(a b:List AV),AV.oS a b=true↔a=b
 | [],b=>by cases b <;> simp [AV.oS]
 | x :: xs,b=>by cases b <;> simp [AV.oS,AV.kT x,AV.lH xs]
end
theorem pN{a b:Option (List AV)}:rf a b=true↔∃l,a=some l∧b=some l:=by
 cases a <;> cases b <;> simp only[rf,AV.lH,co,bM,reduceCtorEq,false_and,and_false,exists_false,exists_eq_left']
 exact eq_comm
def jg(n:Nat)(k:Nat→ax):ax:=Nat.casesOn n (k 0) (fun p=>k (p+1))
def uW(n:Int)(k:Int→ax):ax:=
 match n with
 | .ofNat m=>jg m fun m=>k (.ofNat m)
 | .negSucc m=>jg m fun m=>k (.negSucc m)
def sI:List Nat→(List Nat→ax)→ax
 | [],k=>k []
 | x :: xs,k=>jg x fun x=>sI xs fun xs=>k (x :: xs)
def xf(v:AV)(k:AV→ax):ax:=
 match v with
 | .dead=>k .dead
 | .bool b=>match b with
  | true=>k (.bool true)
  | false=>k (.bool false)
 | .int i n=>uW n fun n=>k (.int i n)
 | .str s=>k (.str s)
 | .sl sz es g=>k (.sl sz es g)
 | .ck a off len cap sz=>k (.ck a off len cap sz)
 | .ref a off=>k (.ref a off)
 | .bO cs=>k (.bO cs)
 | .iz=>k .iz
 | .fn f ez=>k (.fn f ez)
 | .fR=>k .fR
 | .map a=>k (.map a)
 | .dI=>k .dI
 | .iface t v=>k (.iface t v)
 | .fa=>k .fa
 | .agg cs=>k (.agg cs)
 | .cS vs=>k (.cS vs)
def pg:List AV→(List AV→ax)→ax
 | [],k=>k []
 | x :: xs,k=>xf x fun x=>pg xs fun xs=>k (x :: xs)
def pO(a:Loc)(k:Loc→ax):ax:=
 match a with
 | .l i=>jg i fun i=>k (.l i)
 | .g d i=>jg d fun d=>jg i fun i=>k (.g d i)
def DH(g:Gr)(k:Gr→ax):ax:=
 match g with
 | .nil=>k .nil
 | .exact=>k .exact
 | .any=>k .any
 | .bJ a=>pO a fun a=>k (.bJ a)
def Jn(v:AV)(k:AV→ax):ax:=
 match v with
 | .dead=>k .dead
 | .bool b=>match b with
  | true=>k (.bool true)
  | false=>k (.bool false)
 | .int i n=>uW n fun n=>k (.int i n)
 | .str s=>sI s fun s=>k (.str s)
 | .sl sz es g=>pg es fun es=>DH g fun g=>k (.sl sz es g)
 | .ck a off len cap sz=>pO a fun a=>jg off fun off=>jg len fun len=>jg cap fun cap=>k (.ck a off len cap sz)
 | .ref a off=>pO a fun a=>jg off fun off=>k (.ref a off)
 | .bO cs=>pg cs fun cs=>k (.bO cs)
 | .iz=>k .iz
 | .fn f ez=>pg ez fun ez=>k (.fn f ez)
 | .fR=>k .fR
 | .map a=>pO a fun a=>k (.map a)
 | .dI=>k .dI
 | .iface t v=>xf v fun v=>k (.iface t v)
 | .fa=>k .fa
 | .agg cs=>pg cs fun cs=>k (.agg cs)
 | .cS vs=>pg vs fun vs=>k (.cS vs)
def Aw(o:bg)(k:bg→ax):ax:=
 match o with
 | .cells cs=>k (.cells cs)
 | .tok n=>jg n fun n=>k (.tok n)
 | .map es=>k (.map es)
 | .gone=>k .gone
def p9:List bg→(List bg→ax)→ax
 | [],k=>k []
 | x :: xs,k=>Aw x fun x=>p9 xs fun xs=>k (x :: xs)
def rK:List (List bg)→(List (List bg)→ax)→ax
 | [],k=>k []
 | x :: xs,k=>p9 x fun x=>rK xs fun xs=>k (x :: xs)
def DI(s:St)(k:St→ax):ax:=p9 s.own fun own=>rK s.up fun up=>rK s.ro fun ro=>k {own,up,ro}
def a6.full:a6:={v0:=xf,v1:=Jn,l:=pg,s:=DI}
theorem nj(n:Nat)(k:Nat→ax):jg n k=k n:=by cases n <;> rfl
theorem xg(n:Int)(k:Int→ax):uW n k=k n:=by cases n <;> simp [uW,nj]
theorem vX:∀(l:List Nat) (k:List Nat→ax),sI l k=k l
 | [],_=>rfl
 | x :: xs,k=>by simp [sI,nj,vX xs]
theorem wt(v:AV)(k:AV→ax):xf v k=k v:=by
 cases v <;> simp only[xf,xg]
 split <;> rfl
theorem wu:∀(l:List AV) (k:List AV→ax),pg l k=k l
 | [],_=>rfl
 | x :: xs,k=>by simp [pg,wt,wu xs]
theorem xi(a:Loc)(k:Loc→ax):pO a k=k a:=by cases a <;> simp [pO,nj]
theorem Mb(a:Gr)(k:Gr→ax):DH a k=k a:=by cases a <;> simp [DH,xi]
theorem TR(v:AV)(k:AV→ax):Jn v k=k v:=by
 cases v <;> simp only[Jn,xg,vX,wu,xi,Mb,nj,wt]
 split <;> rfl
theorem Jo(o:bg)(k:bg→ax):Aw o k=k o:=by cases o <;> simp [Aw,nj]
theorem rj:∀(l:List bg) (k:List bg→ax),p9 l k=k l
 | [],_=>rfl
 | x :: xs,k=>by simp [p9,Jo,rj xs]
theorem xj:∀(l:List (List bg)) (k:List (List bg)→ax),rK l k=k l
 | [],_=>rfl
 | x :: xs,k=>by simp [rK,rj,xj xs]
theorem Mc(s:St)(k:St→ax):DI s k=k s:=by simp [DI,rj,xj]
theorem a6.ah8:a6.full=a6.not:=by
 unfold a6.full a6.not
 congr <;> funext v k
 ·exact wt v k
 ·exact TR v k
 ·exact wu v k
 ·exact Mc v k
def CX(f:Nat):List (Nat×bT)→Option bT
 | []=>none
 | (g,c) :: l=>bif Nat.beq f g then some c else CX f l
theorem Bp{f:Nat}{c:bT}:∀{l:List (Nat×bT)},CX f l=some c→(f,c)∈l
 | [],h=>by cases h
 | (g,d) :: l,h=>by
  simp only[CX] at h
  cases hb:Nat.beq f g with
  | true=>
   rw[hb] at h
   have:=cQ hb
   subst this
   obtain rfl:=Option.some.inj h
   exact List.mem_cons_self ..
  | false=>
   rw[hb] at h
   exact List.mem_cons_of_mem _ (Bp h)
end Go.Ab
end
section
namespace Go.Ab
structure bR where
 F:Addr→Option Value
 n:Nat→Nat
 loc:Nat→Nat→Nat
 tk:Nat→Nat→Nat→Option (Addr×Nat×Nat)
def kg(κ:bR)(D:Nat)(sz:Nat):Gr→Nat→Addr→Nat→Prop
 | .nil,_,_,_=>False
 | .exact,n,_,cap=>cap=n
 | .any,_,_,_=>True
 | .bJ (.g d i),n,a,cap=>d < D∧i < κ.n d∧κ.tk d i n=some (a,cap,sz)
 | .bJ (.l _),_,_,_=>False
def DJ(g:Gr)(es:List AV):Prop:=(∀e,e∈es→e.bo=true)∨∃d j,g= .bJ (.g d j)∧∀e,e∈es→e.low d=true
inductive VR (κ:bR) (D:Nat):AV→Value→Prop
 | dead (x:Value):VR κ D .dead x
 | bool (b:Bool):VR κ D (.bool b) (.bool b)
 | int (k:IntKind) (n:Int):VR κ D (.int k n) (.int k n)
 | str (bs:List Nat) (s:ByteArray) (h:s.data.toList.map UInt8.toNat=bs):VR κ D (.str bs) (.string s)
 | nR (sz:Nat):VR κ D (.sl sz [] .nil) (.slice none 0 0)
 | sl (sz:Nat) (es:List AV) (g:Gr) (a:Addr) (cap:Nat) (aL:Nat→Value) (hg:kg κ D sz g es.length a cap) (hn:es.length≤cap) (hs:es≠[]→a.spot=none)
   (dM:∀e,e∈es→e.cells.length=sz) (hr:DJ g es)
   (hF:∀j,j < (es.flatMap AV.cells).length→κ.F (a.add j)=some (aL j))
   (hv:∀(j:Nat) (c:AV),(es.flatMap AV.cells)[j]? =some c→VR κ D c (aL j)):VR κ D (.sl sz es g) (.slice (some a) es.length cap)
 | ck (d i off len cap rc sz:Nat) (hd:d < D) (hi:i < κ.n d) (hl:len≤rc) (hc:rc=cap∨(cap=0∧0 < len∧off=0∧κ.tk d i len=some (⟨κ.loc d i,0,none⟩,rc,sz))):VR κ D (.ck (.g d i) off len cap sz) (.slice (some ⟨κ.loc d i,off,none⟩) len rc)
 | ref (d i off:Nat) (hd:d < D) (hi:i < κ.n d):VR κ D (.ref (.g d i) off) (.pointer (some ⟨κ.loc d i,off,none⟩))
 | bO (cs:List AV) (a:Addr) (aL:Nat→Value) (hs:a.spot=none) (hF:∀j,j < cs.length→κ.F (a.add j)=some (aL j))
   (hv:∀(j:Nat) (c:AV),cs[j]? =some c→VR κ D c (aL j)):VR κ D (.bO cs) (.pointer (some a))
 | iz:VR κ D .iz (.pointer none)
 | fn (f:Nat) (cs:List AV) (xs:List Value) (hl:xs.length=cs.length) (hv:∀(j:Nat) (c:AV) (x:Value),cs[j]? =some c→xs[j]? =some x→VR κ D c x):VR κ D (.fn f cs) (.func (.func f) #[] xs.toArray)
 | fR:VR κ D .fR .nilFunc
 | dI:VR κ D .dI (.map none)
 | map (d i:Nat) (hd:d < D) (hi:i < κ.n d):VR κ D (.map (.g d i)) (.map (some (κ.loc d i)))
 | iface (t:Nat) (v:AV) (x:Value) (h:VR κ D v x):VR κ D (.iface t v) (.iface t x)
 | fa:VR κ D .fa .nilIface
 | agg (cs:List AV) (xs:List Value) (hl:xs.length=cs.length) (hv:∀(j:Nat) (c:AV) (x:Value),cs[j]? =some c→xs[j]? =some x→VR κ D c x):VR κ D (.agg cs) (.agg xs.toArray)
 | cS (cs:List AV) (xs:List Value) (hl:xs.length=cs.length) (hv:∀(j:Nat) (c:AV) (x:Value),cs[j]? =some c→xs[j]? =some x→VR κ D c x):VR κ D (.cS cs) (.tuple xs.toArray)
def dS(κ:bR)(D:Nat)(cs:List AV)(xs:List Value):Prop:=xs.length=cs.length∧∀(j:Nat) (c:AV) (x:Value),cs[j]? =some c→xs[j]? =some x→VR κ D c x
structure jd (κ κ':bR) (D:Nat):Prop where
 F:∀a v,κ.F a=some v→κ'.F a=some v
 n:∀d,d < D→κ.n d≤κ'.n d
 loc:∀d i,d < D→i < κ.n d→κ'.loc d i=κ.loc d i
 tk:∀d i n x,d < D→i < κ.n d→κ.tk d i n=some x→κ'.tk d i n=some x
theorem jd.refl(κ:bR)(D:Nat):jd κ κ D:=⟨fun _ _ h=>h,fun _ _=>Nat.le_refl _,fun _ _ _ _=>rfl,fun _ _ _ _ _ _ h=>h⟩
theorem jd.trans{κ κ' CJ:bR}{D:Nat}(h:jd κ κ' D)(k:jd κ' CJ D):jd κ CJ D:=
 ⟨fun a v e=>k.F a v (h.F a v e),fun d hd=>Nat.le_trans (h.n d hd) (k.n d hd),
  fun d i hd hi=>(k.loc d i hd (Nat.lt_of_lt_of_le hi (h.n d hd))).trans (h.loc d i hd hi),
  fun d i n x hd hi e=>k.tk d i n x hd (Nat.lt_of_lt_of_le hi (h.n d hd)) (h.tk d i n x hd hi e)⟩
theorem jd.low{κ κ':bR}{D D':Nat}(h:jd κ κ' D)(hD:D'≤D):jd κ κ' D':=
 ⟨h.F,fun d hd=>h.n d (Nat.lt_of_lt_of_le hd hD),fun d i hd=>h.loc d i (Nat.lt_of_lt_of_le hd hD),fun d i n x hd=>h.tk d i n x (Nat.lt_of_lt_of_le hd hD)⟩
theorem kg.mono{κ κ':bR}{D sz n cap:Nat}{g:Gr}{a:Addr}(h:kg κ D sz g n a cap)(k:jd κ κ' D):kg κ' D sz g n a cap:=by
 unfold kg at *
 split at h <;> simp_all
 obtain⟨h1,h2,h3⟩:=h
 exact⟨Nat.lt_of_lt_of_le h2 (k.n _ h1),k.tk _ _ _ _ h1 h2 h3⟩
theorem VR.mono{κ κ':bR}{D:Nat}{v:AV}{x:Value}(h:VR κ D v x)(k:jd κ κ' D):VR κ' D v x:=by
 induction h with
 | dead x=>exact .dead x
 | bool b=>exact .bool b
 | int k n=>exact .int k n
 | str bs s h=>exact .str bs s h
 | nR sz=>exact .nR sz
 | sl sz es g a cap aL hg hn hs dM hr hF hv ih=>exact .sl sz es g a cap aL (hg.mono k) hn hs dM hr (fun j hj=>k.F _ _ (hF j hj)) ih
 | ck d i off len cap rc sz hd hi hl hc=>rw[←k.loc d i hd hi];exact .ck d i off len cap rc sz hd (Nat.lt_of_lt_of_le hi (k.n d hd)) hl (hc.imp id fun⟨h1,h2,h3,h4⟩=>⟨h1,h2,h3,by rw[k.loc d i hd hi];exact k.tk d i len _ hd hi h4⟩)
 | ref d i off hd hi=>rw[←k.loc d i hd hi];exact .ref d i off hd (Nat.lt_of_lt_of_le hi (k.n d hd))
 | bO cs a aL hs hF hv ih=>exact .bO cs a aL hs (fun j hj=>k.F _ _ (hF j hj)) ih
 | iz=>exact .iz
 | fn f cs xs hl hv ih=>exact .fn f cs xs hl ih
 | fR=>exact .fR
 | dI=>exact .dI
 | map d i hd hi=>rw[←k.loc d i hd hi];exact .map d i hd (Nat.lt_of_lt_of_le hi (k.n d hd))
 | iface t v x h ih=>exact .iface t v x ih
 | fa=>exact .fa
 | agg cs xs hl hv ih=>exact .agg cs xs hl ih
 | cS cs xs hl hv ih=>exact .cS cs xs hl ih
theorem VR.up{κ:bR}{D D':Nat}{v:AV}{x:Value}(h:VR κ D v x)(hD:D≤D'):VR κ D' v x:=by
 induction h with
 | dead x=>exact .dead x
 | bool b=>exact .bool b
 | int k n=>exact .int k n
 | str bs s h=>exact .str bs s h
 | nR sz=>exact .nR sz
 | sl sz es g a cap aL hg hn hs dM hr hF hv ih=>
  refine .sl sz es g a cap aL ?_ hn hs dM hr hF ih
  unfold kg at *
  split at hg <;> simp_all
  exact Nat.lt_of_lt_of_le hg.1 hD
 | ck d i off len cap rc sz hd hi hl hc=>exact .ck d i off len cap rc sz (Nat.lt_of_lt_of_le hd hD) hi hl hc
 | ref d i off hd hi=>exact .ref d i off (Nat.lt_of_lt_of_le hd hD) hi
 | bO cs a aL hs hF hv ih=>exact .bO cs a aL hs hF ih
 | iz=>exact .iz
 | fn f cs xs hl hv ih=>exact .fn f cs xs hl ih
 | fR=>exact .fR
 | dI=>exact .dI
 | map d i hd hi=>exact .map d i (Nat.lt_of_lt_of_le hd hD) hi
 | iface t v x h ih=>exact .iface t v x ih
 | fa=>exact .fa
 | agg cs xs hl hv ih=>exact .agg cs xs hl ih
 | cS cs xs hl hv ih=>exact .cS cs xs hl ih
theorem kz{cs:List AV}(h:AV.ba cs=true){j:Nat}{c:AV}(hc:cs[j]? =some c):c.bo=true:=by
 induction cs generalizing j with
 | nil=>simp at hc
 | cons v vs ih=>
  simp only[AV.ba,bD] at h
  cases j with
  | zero=>simp at hc;exact hc ▸ h.1
  | succ j=>exact ih h.2 (by simpa using hc)
theorem dX{cs:List AV}:AV.ba cs=true↔∀c,c∈cs→c.bo=true:=by
 induction cs with
 | nil=>simp [AV.ba]
 | cons v vs ih=>simp [AV.ba,ih]
theorem jK{e:AV}(h:e.bo=true){c:AV}(hc:c∈e.cells):c.bo=true:=by
 unfold AV.cells at hc
 split at hc
 ·exact dX.1 (by simpa [AV.bo] using h) c hc
 ·simp at hc;exact hc ▸ h
theorem VR.bo{κ:bR}{D:Nat}{v:AV}{x:Value}(h:VR κ D v x)(hr:v.bo=true){κ':bR}(D':Nat)(hF:∀a v,κ.F a=some v→κ'.F a=some v):VR κ' D' v x:=by
 induction h with
 | dead x=>exact .dead x
 | bool b=>exact .bool b
 | int k n=>exact .int k n
 | str bs s h=>exact .str bs s h
 | nR sz=>exact .nR sz
 | sl sz es g a cap aL hg hn hs dM jm Jp hv ih=>
  refine .sl sz es g a cap aL ?_ hn hs dM jm (fun j hj=>hF _ _ (Jp j hj)) (fun j c hc=>ih j c hc ?_)
  ·cases g <;> simp_all [AV.bo,kg]
  ·obtain⟨e,he,Ax⟩:=List.mem_flatMap.1 (List.mem_of_getElem? hc)
   rcases jm with jm | ⟨d,j,rfl,_⟩
   ·exact jK (jm e he) Ax
   ·simp [AV.bo] at hr
 | ck d i off len cap rc sz hd hi hl hc=>simp [AV.bo] at hr
 | ref d i off hd hi=>simp [AV.bo] at hr
 | bO cs a aL hs Jp hv ih=>exact .bO cs a aL hs (fun j hj=>hF _ _ (Jp j hj)) (fun j c hc=>ih j c hc (kz (by simpa [AV.bo] using hr) hc))
 | iz=>exact .iz
 | fn f cs xs hl hv ih=>exact .fn f cs xs hl (fun j c x hc hx=>ih j c x hc hx (kz (by simpa [AV.bo] using hr) hc))
 | fR=>exact .fR
 | dI=>exact .dI
 | map d i hd hi=>simp [AV.bo] at hr
 | iface t v x h ih=>exact .iface t v x (ih (by simpa [AV.bo] using hr))
 | fa=>exact .fa
 | agg cs xs hl hv ih=>exact .agg cs xs hl (fun j c x hc hx=>ih j c x hc hx (kz (by simpa [AV.bo] using hr) hc))
 | cS cs xs hl hv ih=>exact .cS cs xs hl (fun j c x hc hx=>ih j c x hc hx (kz (by simpa [AV.bo] using hr) hc))
theorem lJ{v:AV}(h:v.bo=true)(d:Nat):v.av d=v:=by
 cases v <;> simp_all [AV.bo,AV.av]
 rename_i g
 cases g <;> simp_all [AV.bo,Gr.av]
theorem rL{d:Nat}{cs:List AV}(h:AV.nN d cs=true){j:Nat}{c:AV}(hc:cs[j]? =some c):c.low d=true:=by
 induction cs generalizing j with
 | nil=>simp at hc
 | cons v vs ih=>
  simp only[AV.nN,bD] at h
  cases j with
  | zero=>simp at hc;exact hc ▸ h.1
  | succ j=>exact ih h.2 (by simpa using hc)
theorem Loc.mW{d d':Nat}(h:d≤d'){a:Loc}(ha:a.low d=true):a.low d'=true:=by
 cases a with
 | l i=>cases ha
 | g e i=>exact dy (Nat.le_trans (dL ha) h)
mutual
theorem AV.mW{d d':Nat}(h:d≤d'):∀(v:AV),v.low d=true→v.low d'=true
 | .dead,_ | .bool _,_ | .int _ _,_ | .str _,_ | .iz,_ | .fR,_ | .dI,_ | .fa,_=>rfl
 | .sl sz es g,hv=>by
  cases g with
  | bJ a=>exact Loc.mW h hv
  | nil=>rfl
  | exact=>rfl
  | any=>rfl
 | .ck a _ _ _ _,hv=>Loc.mW h hv
 | .ref a _,hv=>Loc.mW h hv
 | .map a,hv=>Loc.mW h hv
 | .bO cs,hv=>AV.qa h cs hv
 | .fn _ cs,hv=>AV.qa h cs hv
 | .agg cs,hv=>AV.qa h cs hv
 | .cS cs,hv=>AV.qa h cs hv
 | .iface _ v,hv=>AV.mW h v hv
theorem AV.qa{d d':Nat}(h:d≤d'):∀(vs:List AV),AV.nN d vs=true→AV.nN d' vs=true
 | [],_=>rfl
 | v :: vs,hv=>by
  simp only[AV.nN,bD] at hv ⊢
  exact⟨AV.mW h v hv.1,AV.qa h vs hv.2⟩
end
mutual
theorem AV.pi(d:Nat):∀(v:AV),v.bo=true→v.low d=true
 | .dead,_ | .bool _,_ | .int _ _,_ | .str _,_ | .iz,_ | .fR,_ | .dI,_ | .fa,_=>rfl
 | .sl sz es g,hv=>by
  cases g with
  | bJ a=>simp [AV.bo] at hv
  | nil=>rfl
  | exact=>rfl
  | any=>rfl
 | .ck a _ _ _ _,hv=>by simp [AV.bo] at hv
 | .ref a _,hv=>by simp [AV.bo] at hv
 | .map a,hv=>by simp [AV.bo] at hv
 | .bO cs,hv=>AV.kA d cs hv
 | .fn _ cs,hv=>AV.kA d cs hv
 | .agg cs,hv=>AV.kA d cs hv
 | .cS cs,hv=>AV.kA d cs hv
 | .iface _ v,hv=>AV.pi d v hv
theorem AV.kA(d:Nat):∀(vs:List AV),AV.ba vs=true→AV.nN d vs=true
 | [],_=>rfl
 | v :: vs,hv=>by
  simp only[AV.ba,bD] at hv
  simp only[AV.nN,bD]
  exact⟨AV.pi d v hv.1,AV.kA d vs hv.2⟩
end
theorem nS{d:Nat}{cs:List AV}:AV.nN d cs=true↔∀c,c∈cs→c.low d=true:=by
 induction cs with
 | nil=>simp [AV.nN]
 | cons v vs ih=>simp [AV.nN,ih]
theorem DK{d:Nat}{e:AV}(h:e.low d=true){c:AV}(hc:c∈e.cells):c.low d=true:=by
 unfold AV.cells at hc
 split at hc
 ·exact nS.1 (by simpa [AV.low] using h) c hc
 ·simp at hc;exact hc ▸ h
theorem VR.lower{κ:bR}{D d:Nat}{v:AV}{x:Value}(h:VR κ D v x)(hl:v.low d=true):VR κ (d+1) v x:=by
 induction h with
 | dead x=>exact .dead x
 | bool b=>exact .bool b
 | int k n=>exact .int k n
 | str bs s h=>exact .str bs s h
 | nR sz=>exact .nR sz
 | sl sz es g a cap aL hg hn hs dM jm Jp hv ih=>
  refine .sl sz es g a cap aL ?_ hn hs dM jm Jp (fun j c hc=>?_)
  ·cases g with
   | bJ l=>
    cases l with
    | l i=>simp [AV.low,Loc.low] at hl
    | g e i=>exact⟨Nat.lt_succ_of_le (dL (by simpa [AV.low,Loc.low] using hl)),hg.2⟩
   | nil=>exact hg
   | exact=>exact hg
   | any=>exact hg
  ·obtain⟨e,he,Ax⟩:=List.mem_flatMap.1 (List.mem_of_getElem? hc)
   rcases jm with jm | ⟨d',i',rfl,jm⟩
   ·exact(hv j c hc).bo (jK (jm e he) Ax) _ (fun _ _ h=>h)
   ·exact ih j c hc (AV.mW (dL (by simpa [AV.low,Loc.low] using hl)) c (DK (jm e he) Ax))
 | ck e i off len cap rc sz hd hi Jq hc=>exact .ck e i off len cap rc sz (Nat.lt_succ_of_le (dL (by simpa [AV.low,Loc.low] using hl))) hi Jq hc
 | ref e i off hd hi=>exact .ref e i off (Nat.lt_succ_of_le (dL (by simpa [AV.low,Loc.low] using hl))) hi
 | bO cs a aL hs Jp hv ih=>exact .bO cs a aL hs Jp (fun j c hc=>ih j c hc (rL (by simpa [AV.low] using hl) hc))
 | iz=>exact .iz
 | fn f cs xs Jq hv ih=>exact .fn f cs xs Jq (fun j c x hc hx=>ih j c x hc hx (rL (by simpa [AV.low] using hl) hc))
 | fR=>exact .fR
 | dI=>exact .dI
 | map e i hd hi=>exact .map e i (Nat.lt_succ_of_le (dL (by simpa [AV.low,Loc.low] using hl))) hi
 | iface t v x h ih=>exact .iface t v x (ih (by simpa [AV.low] using hl))
 | fa=>exact .fa
 | agg cs xs Jq hv ih=>exact .agg cs xs Jq (fun j c x hc hx=>ih j c x hc hx (rL (by simpa [AV.low] using hl) hc))
 | cS cs xs Jq hv ih=>exact .cS cs xs Jq (fun j c x hc hx=>ih j c x hc hx (rL (by simpa [AV.low] using hl) hc))
def axB(fz:Nat×Nat)(n:Nat):Prop:=∀j,j < n→¬(fz.1≤j∧j < fz.2)
def qb(κ:bR)(D:Nat)(es:List (AV×AV))(iJ:List MapEntry):Prop:=
 iJ.length=es.length∧∀(j:Nat) (p:AV×AV) (e:MapEntry),es[j]? =some p→iJ[j]? =some e→VR κ D p.1 e.key∧VR κ D p.2 e.val
theorem qb.mono{κ κ':bR}{D:Nat}{es:List (AV×AV)}{iJ:List MapEntry}(h:qb κ D es iJ)(k:jd κ κ' D):qb κ' D es iJ:=
 ⟨h.1,fun j p e hp he=>⟨(h.2 j p e hp he).1.mono k,(h.2 j p e hp he).2.mono k⟩⟩
def OR(κ:bR)(d i:Nat)(w:World):bg→Prop
 | .cells cs=>(∃C e fz,w.heap[κ.loc d i]? =some (.cells C e fz)∧axB fz C.size∧dS κ (d+1) cs (C.toList.take cs.length)∧∀m b cap sz,κ.tk d i m=some (b,cap,sz)→cap * sz≤C.size)∧∀o,κ.F ⟨κ.loc d i,o,none⟩=none
 | .tok n=>∃b cap sz,κ.tk d i n=some (⟨b,0,none⟩,cap,sz)∧n≤cap∧(∃C e fz,w.heap[b]? =some (.cells C e fz)∧C.size=cap * sz∧axB fz C.size)∧(∀o,n * sz≤o→κ.F ⟨b,o,none⟩=none)∧∀m,n < m→κ.tk d i m=none
 | .gone=>True
 | .map es=>∃iJ clock,w.heap[κ.loc d i]? =some (.map iJ clock)∧qb κ (d+1) es iJ.toList
def bU(κ:bR)(d i:Nat):bg→Option Nat
 | .cells _ | .map _=>some (κ.loc d i)
 | .tok n=>(κ.tk d i n).map (·.1.block)
 | .gone=>none
def St.fr(s:St)(d:Nat):Option (List bg):=if d=s.aa then some s.own else if d < s.aa then(s.up ++ s.ro)[s.aa - 1 - d]? else none
theorem St.sJ(s:St)(d i:Nat):s.get (.g d i)=(s.fr d).bind (·[i]?):=by
 unfold St.get St.fr
 by_cases h:d=s.aa
 ·simp [h]
 ·by_cases h':d < s.aa <;> simp [h,h']
theorem St.jn(s:St)(a:Loc):s.get (a.av s.aa)=s.get a:=by
 cases a with
 | l i=>simp [Loc.av,St.get]
 | g d i=>rfl
structure dk (κ:bR) (s:St) (w:World):Prop where
 kU:∀a v,κ.F a=some v→a.spot=none∧w.cell? a=some v
 len:∀d l,s.fr d=some l→l.length=κ.n d
 obj:∀d i o,s.get (.g d i)=some o→OR κ d i w o
 inj:∀d i o d' i' o' b,s.get (.g d i)=some o→s.get (.g d' i')=some o'→bU κ d i o=some b→bU κ d' i' o'=some b→d=d'∧i=i'
def Live(κ:bR)(s:St)(b:Nat):Prop:=∃d i o,s.get (.g d i)=some o∧bU κ d i o=some b
structure iA (κ:bR) (s:St) (w:World) (κ':bR) (s':St) (w':World):Prop where
 k:jd κ κ' (s.aa+1)
 aa:s'.aa=s.aa
 size:w.heap.size≤w'.heap.size
 os:w'.os=w.os
 tape:w'.tape=w.tape
 output:w'.output=w.output
 chg:∀b,b < w.heap.size→¬Live κ s b→w'.heap[b]? =w.heap[b]?
 live:∀b,b < w.heap.size→Live κ' s' b→Live κ s b
 TS:∀a,κ'.F a≠none→κ.F a≠none∨w.heap.size≤a.block∨Live κ s a.block
theorem iA.refl(κ:bR)(s:St)(w:World):iA κ s w κ s w:=
 ⟨.refl _ _,rfl,Nat.le_refl _,rfl,rfl,rfl,fun _ _ _=>rfl,fun _ _ h=>h,fun _ h=>.inl h⟩
theorem iA.trans{κ κ₁ κ₂:bR}{s s₁ s₂:St}{w w₁ w₂:World}(h:iA κ s w κ₁ s₁ w₁)(k:iA κ₁ s₁ w₁ κ₂ s₂ w₂):iA κ s w κ₂ s₂ w₂:=by
 refine⟨h.k.trans (h.aa ▸ k.k),k.aa.trans h.aa,Nat.le_trans h.size k.size,k.os.trans h.os,k.tape.trans h.tape,k.output.trans h.output,fun b hb hl=>?_,fun b hb hl=>?_,fun a ha=>?_⟩
 ·rw[k.chg b (Nat.lt_of_lt_of_le hb h.size) (fun h'=>hl (h.live b hb h')),h.chg b hb hl]
 ·exact h.live b hb (k.live b (Nat.lt_of_lt_of_le hb h.size) hl)
 ·rcases k.TS a ha with h1 | h1 | h1
  ·exact h.TS a h1
  ·exact .inr (.inl (Nat.le_trans h.size h1))
  ·by_cases hb:a.block < w.heap.size
   ·exact .inr (.inr (h.live _ hb h1))
   ·exact .inr (.inl (by omega))
def FR(κ:bR)(s:St)(fr:Nat→AV)(a:Act):Prop:=∀t,VR κ (s.aa+1) ((fr t).av s.aa) (a.tmps.getD t undef)
theorem FR.ext{κ κ':bR}{s s':St}{w w':World}{fr:Nat→AV}{a:Act}(h:FR κ s fr a)(e:iA κ s w κ' s' w'):FR κ' s' fr a:=by
 intro t
 have:=(h t).mono e.k
 rw[e.aa]
 exact this
theorem f7{a:Addr}(h:a.spot=none)(j:Nat):a.add j=⟨a.block,a.off+j,none⟩:=by
 unfold Addr.add
 split
 ·subst_vars;cases a;simp_all
 ·cases a;simp_all
theorem add_add{a:Addr}(i j:Nat):(a.add i).add j=a.add (i+j):=by
 unfold Addr.add
 by_cases hi:i=0 <;> by_cases hj:j=0 <;> simp_all <;> omega
theorem qc{a:Addr}(h:a.spot=none)(j:Nat):(a.add j).spot=none:=by rw[f7 h]
theorem gA{α:Type}(vs:List α):∀(cs:List α) (o:Nat),(di cs o vs).length=cs.length:=by
 induction vs with
 | nil=>intro cs o;rfl
 | cons v vs ih=>intro cs o;simp [di,ih]
theorem iK{α:Type}(vs:List α):∀(cs:List α) (o:Nat),o+vs.length≤cs.length→∀j,(di cs o vs)[j]? =if o≤j∧j < o+vs.length then vs[j - o]? else cs[j]?:=by
 induction vs with
 | nil=>intro cs o _ j;simp [di];omega
 | cons v vs ih=>
  intro cs o h j
  simp only[cP] at h
  simp only[di]
  rw[ih (cs.set o v) (o+1) (by simp;omega)]
  by_cases hj:j=o
  ·subst hj
   rw[if_neg (by omega),if_pos (by simp)]
   simp only[Nat.sub_self,List.getElem?_cons_zero]
   rw[List.getElem?_set_self (by omega)]
  ·by_cases h1:o+1≤j∧j < o+1+vs.length
   ·rw[if_pos h1,if_pos (by simp;omega)]
    obtain⟨m,rfl⟩:∃m,j=o+1+m:=⟨j - (o+1),by omega⟩
    simp only[show o+1+m - (o+1)=m by omega,show o+1+m - o=m+1 by omega,List.getElem?_cons_succ]
   ·rw[if_neg h1,if_neg (by simp;omega)]
    rw[eM (by omega)]
theorem qd(vs:List Value):∀(w:World) (b o:Nat) (C:Array Value) (e:TypeId) (fz:Nat×Nat),w.heap[b]? =some (.cells C e fz)→o+vs.length≤C.size→
  ∀b',(w.setCells b o vs).heap[b']? =if b'=b then some (.cells (di C.toList o vs).toArray e fz) else w.heap[b']?:=by
 induction vs with
 | nil=>intro w b o C e fz hb _ b';simp only[World.setCells,di];split <;> simp_all
 | cons v vs ih=>
  intro w b o C e fz hb ho b'
  simp only[cP] at ho
  have h1:(w.setCell ⟨b,o,none⟩ v).heap[b]? =some (.cells (C.setIfInBounds o v) e fz):=by
   simp [World.setCell,Array.getElem?_modify,hb]
  rw[World.setCells,ih _ b (o+1) _ e fz h1 (by simp;omega)]
  split
  ·simp [di,Array.toList_setIfInBounds]
  ·rename_i cK
   simp [World.setCell,Array.getElem?_modify,Ne.symm cK]
theorem qe(vs:List Value):∀(w:World) (b o:Nat),(w.setCells b o vs).heap.size=w.heap.size:=by
 induction vs with
 | nil=>intro w b o;rfl
 | cons v vs ih=>intro w b o;simp [World.setCells,ih]
theorem qf(vs:List Value):∀(w:World) (b o:Nat),(w.setCells b o vs).os=w.os∧(w.setCells b o vs).tape=w.tape∧(w.setCells b o vs).output=w.output:=by
 induction vs with
 | nil=>intro w b o;exact⟨rfl,rfl,rfl⟩
 | cons v vs ih=>intro w b o;simp only[World.setCells];exact ih _ b (o+1)
theorem fS{w:World}{b o:Nat}{C:Array Value}{e:TypeId}{fz:Nat×Nat}(h:w.heap[b]? =some (.cells C e fz)):w.cell? ⟨b,o,none⟩=C[o]?:=by
 simp [World.cell?,h]
theorem gX{w w':World}{a:Addr}(h:w'.heap[a.block]? =w.heap[a.block]?):w'.cell? a=w.cell? a:=by
 simp [World.cell?,h]
theorem tQ{w:World}{a:Addr}{v:Value}(h:w.cell? a=some v):a.block < w.heap.size:=by
 unfold World.cell? at h
 split at h
 ·rename_i hb;exact(Array.getElem?_eq_some_iff.1 hb).1
 ·cases h
theorem dS.get{κ:bR}{D:Nat}{cs:List AV}{xs:List Value}(h:dS κ D cs xs){j:Nat}{c:AV}(hc:cs[j]? =some c):∃x,xs[j]? =some x∧VR κ D c x:=by
 have hj:j < xs.length:=by rw[h.1];exact(bZ.1 hc).1
 exact⟨xs[j],d8 hj,h.2 j c _ hc (d8 hj)⟩
theorem dS.mono{κ κ':bR}{D:Nat}{cs:List AV}{xs:List Value}(h:dS κ D cs xs)(k:jd κ κ' D):dS κ' D cs xs:=
 ⟨h.1,fun j c x hc hx=>(h.2 j c x hc hx).mono k⟩
theorem dS.up{κ:bR}{D D':Nat}{cs:List AV}{xs:List Value}(h:dS κ D cs xs)(k:D≤D'):dS κ D' cs xs:=
 ⟨h.1,fun j c x hc hx=>(h.2 j c x hc hx).up k⟩
theorem dS.nil(κ:bR)(D:Nat):dS κ D [] []:=⟨rfl,fun j c x hc=>by simp at hc⟩
theorem dS.cons{κ:bR}{D:Nat}{c:AV}{x:Value}{cs:List AV}{xs:List Value}(h:VR κ D c x)(hs:dS κ D cs xs):dS κ D (c :: cs) (x :: xs):=by
 refine⟨by simp [hs.1],fun j c' x' hc hx=>?_⟩
 cases j with
 | zero=>simp at hc hx;exact hc ▸ hx ▸ h
 | succ j=>exact hs.2 j c' x' (by simpa using hc) (by simpa using hx)
theorem dS.append{κ:bR}{D:Nat}{cs ds:List AV}{xs ys:List Value}(h:dS κ D cs xs)(k:dS κ D ds ys):dS κ D (cs ++ ds) (xs ++ ys):=by
 refine⟨by simp [h.1,k.1],fun j c x hc hx=>?_⟩
 by_cases hj:j < cs.length
 ·rw[eZ hj] at hc
  rw[eZ (by rw[h.1];exact hj)] at hx
  exact h.2 j c x hc hx
 ·rw[List.getElem?_append_right (by omega)] at hc
  rw[List.getElem?_append_right (by rw[h.1];omega),h.1] at hx
  exact k.2 _ c x hc hx
theorem dS.CY{κ:bR}{D:Nat}{c:AV}{cs:List AV}{xs:List Value}(h:dS κ D (c :: cs) xs):∃x ys,xs=x :: ys∧VR κ D c x∧dS κ D cs ys:=by
 cases xs with
 | nil=>have:=h.1;simp at this
 | cons x ys=>exact⟨x,ys,rfl,h.2 0 c x rfl rfl,by simpa using h.1,fun j c' x' hc hx=>h.2 (j+1) c' x' (by simpa using hc) (by simpa using hx)⟩
theorem dS.drop{κ:bR}{D:Nat}{cs:List AV}{xs:List Value}(h:dS κ D cs xs)(n:Nat):dS κ D (cs.drop n) (xs.drop n):=
 ⟨by simp [h.1],fun j c x hc hx=>h.2 (n+j) c x (by simpa using hc) (by simpa using hx)⟩
theorem dS.take{κ:bR}{D:Nat}{cs:List AV}{xs:List Value}(h:dS κ D cs xs)(n:Nat):dS κ D (cs.take n) (xs.take n):=by
 refine⟨by simp [h.1],fun j c x hc hx=>?_⟩
 simp only[List.getElem?_take] at hc hx
 split at hc <;> simp_all
 exact h.2 j c x hc hx
theorem dS.di{κ:bR}{D:Nat}{cs vs:List AV}{xs ys:List Value}(h:dS κ D cs xs)(k:dS κ D vs ys){o:Nat}(ho:o+vs.length≤cs.length):dS κ D (di cs o vs) (Ab.di xs o ys):=by
 refine⟨by simp [gA,h.1],fun j c x hc hx=>?_⟩
 rw[iK _ _ _ ho] at hc
 rw[iK _ _ _ (by rw[k.1,h.1];exact ho),k.1] at hx
 split at hc
 ·rw[if_pos (by assumption)] at hx;exact k.2 _ _ _ hc hx
 ·rw[if_neg (by assumption)] at hx;exact h.2 _ _ _ hc hx
theorem dS.bo{κ:bR}{D:Nat}{cs:List AV}{xs:List Value}(h:dS κ D cs xs)(hr:AV.ba cs=true){κ':bR}(D':Nat)(hF:∀a v,κ.F a=some v→κ'.F a=some v):dS κ' D' cs xs:=
 ⟨h.1,fun j c x hc hx=>(h.2 j c x hc hx).bo (kz hr hc) D' hF⟩
theorem OR.block{κ:bR}{d i:Nat}{w:World}{o:bg}{b:Nat}(h:OR κ d i w o)(hb:bU κ d i o=some b):∃ob,w.heap[b]? =some ob:=by
 cases o with
 | cells cs=>simp only[bU,bM] at hb;subst hb;obtain⟨⟨C,e,fz,h1,_⟩,_⟩:=h;exact⟨_,h1⟩
 | tok n=>
  obtain⟨b',cap,sz,h1,_,⟨C,e,fz,h2,_⟩,_⟩:=h
  simp only[bU,h1,e9,bM] at hb
  subst hb
  exact⟨_,h2⟩
 | map es=>simp only[bU,bM] at hb;subst hb;obtain⟨iJ,clock,h1,_⟩:=h;exact⟨_,h1⟩
 | gone=>simp [bU] at hb
theorem dk.mj{κ:bR}{s:St}{w:World}(hs:dk κ s w){b:Nat}(h:Live κ s b):b < w.heap.size:=by
 obtain⟨d,i,o,ho,hb⟩:=h
 obtain⟨ob,hh⟩:=(hs.obj d i o ho).block hb
 exact(Array.getElem?_eq_some_iff.1 hh).1
theorem OR.aK{κ κ':bR}{d i:Nat}{w w':World}{o:bg}(h:OR κ d i w o)(hi:i < κ.n d)(hk:jd κ κ' (d+1))(ht:∀m,κ'.tk d i m=κ.tk d i m)(hb:∀b,bU κ d i o=some b→w'.heap[b]? =w.heap[b]?∧∀x,κ'.F ⟨b,x,none⟩=κ.F ⟨b,x,none⟩):
  OR κ' d i w' o∧bU κ' d i o=bU κ d i o:=by
 cases o with
 | cells cs=>
  obtain⟨⟨C,e,fz,h1,h2,h3,h5⟩,h4⟩:=h
  have hl:=hk.loc d i (Nat.lt_succ_self d) hi
  obtain⟨e1,e2⟩:=hb _ rfl
  refine⟨⟨⟨C,e,fz,by rw[hl,e1,h1],h2,h3.mono hk,fun m b cap sz hm=>h5 m b cap sz (by rw[←ht];exact hm)⟩,fun o=>by rw[hl,e2,h4]⟩,by simp [bU,hl]⟩
 | tok n=>
  obtain⟨b,cap,sz,h1,h0,⟨C,e,fz,h2,h3,h4⟩,h5,h6⟩:=h
  have hl:=hk.tk d i n _ (Nat.lt_succ_self d) hi h1
  obtain⟨e1,e2⟩:=hb b (by simp [bU,h1])
  exact⟨⟨b,cap,sz,hl,h0,⟨C,e,fz,by rw[e1,h2],h3,h4⟩,fun o ho=>by rw[e2,h5 o ho],fun m hm=>by rw[ht,h6 m hm]⟩,by simp [bU,h1,hl]⟩
 | map es=>
  obtain⟨iJ,clock,h1,h2⟩:=h
  have hl:=hk.loc d i (Nat.lt_succ_self d) hi
  obtain⟨e1,e2⟩:=hb _ rfl
  exact⟨⟨iJ,clock,by rw[hl,e1,h1],h2.mono hk⟩,by simp [bU,hl]⟩
 | gone=>exact⟨trivial,rfl⟩
theorem dk.xk{κ:bR}{s:St}{w:World}(hs:dk κ s w){d i:Nat}{o:bg}(h:s.get (.g d i)=some o):i < κ.n d:=by
 rw[St.sJ] at h
 cases hl:s.fr d with
 | none=>simp [hl] at h
 | some l=>rw[hl] at h;rw[←hs.len d l hl];exact(bZ.1 h).1
theorem St.kV{s:St}{d i:Nat}{o:bg}(h:s.get (.g d i)=some o):d≤s.aa:=by
 rcases Nat.lt_trichotomy d s.aa with h1 | h1 | h1
 ·omega
 ·omega
 ·have h2:d≠s.aa:=by omega
  have h3:¬d < s.aa:=by omega
  simp [St.get,h2,h3] at h
theorem dk.YN{κ:bR}{s:St}{w:World}(hs:dk κ s w){d i:Nat}{o:bg}(h:s.get (.g d i)=some o):d < s.aa+1∧i < κ.n d:=⟨by have:=St.kV h;omega,hs.xk h⟩
theorem dk.world{κ κ':bR}{s:St}{w w':World}(hs:dk κ s w)(hk:jd κ κ' (s.aa+1))(hn:κ'.n=κ.n)(ht:κ'.tk=κ.tk)(hF:∀a v,κ'.F a=some v→a.spot=none∧w'.cell? a=some v)
  (hb:∀b,Live κ s b→w'.heap[b]? =w.heap[b]?∧∀x,κ'.F ⟨b,x,none⟩=κ.F ⟨b,x,none⟩):dk κ' s w':=by
 have key:∀d i o,s.get (.g d i)=some o→OR κ' d i w' o∧bU κ' d i o=bU κ d i o:=fun d i o h=>
  (hs.obj d i o h).aK (hs.xk h) (hk.low (by have:=St.kV h;omega)) (fun m=>by rw[ht]) (fun b gl=>hb b ⟨d,i,o,h,gl⟩)
 refine⟨hF,fun d l h=>by rw[hn];exact hs.len d l h,fun d i o h=>(key d i o h).1,fun d i o d' i' o' b h h' e e'=>?_⟩
 rw[(key d i o h).2] at e
 rw[(key d' i' o' h').2] at e'
 exact hs.inj d i o d' i' o' b h h' e e'
def bR.freeze(κ:bR)(b lo:Nat)(C:Array Value):bR:=
 {κ with F:=fun a=>if a.block=b∧a.spot=none∧lo≤a.off∧a.off < C.size then C[a.off]? else κ.F a}
theorem sK{κ:bR}{b lo j:Nat}{C:Array Value}(h:lo≤j)(hj:j < C.size):(κ.freeze b lo C).F ⟨b,j,none⟩=some C[j]:=by
 simp [bR.freeze,h,hj]
theorem jd.freeze{κ:bR}{b lo:Nat}{C:Array Value}(hb:∀j,lo≤j→κ.F ⟨b,j,none⟩=none)(D:Nat):jd κ (κ.freeze b lo C) D:=by
 refine⟨fun a v h=>?_,fun _ _=>Nat.le_refl _,fun _ _ _ _=>rfl,fun _ _ _ _ _ _ h=>h⟩
 simp only[bR.freeze]
 split
 ·rename_i hc
  have h1:=hb a.off hc.2.2.1
  have:a=⟨b,a.off,none⟩:=by cases a;simp_all
  rw[this,h1] at h
  cases h
 ·exact h
theorem dk.ww{κ:bR}{s:St}{w:World}(hs:dk κ s w){a:Addr}(h:w.heap.size≤a.block):κ.F a=none:=by
 cases e:κ.F a with
 | none=>rfl
 | some v=>have:=tQ (hs.kU a v e).2;omega
theorem dk.xn{κ:bR}{s:St}{w w':World}(hs:dk κ s w)(C:Array Value)(e:TypeId)(fz:Nat×Nat)(hw:w'.heap=w.heap.push (.cells C e fz))(ho:w'.os=w.os)(ht:w'.tape=w.tape)(hu:w'.output=w.output):
  dk (κ.freeze w.heap.size 0 C) s w'∧iA κ s w (κ.freeze w.heap.size 0 C) s w':=by
 have hold:∀b,b < w.heap.size→w'.heap[b]? =w.heap[b]?:=fun b hb=>by rw[hw,Array.getElem?_push];simp [Nat.ne_of_lt hb]
 have ic:w'.heap[w.heap.size]? =some (.cells C e fz):=by rw[hw];simp
 have hk:∀D,jd κ (κ.freeze w.heap.size 0 C) D:=fun D=>jd.freeze (fun j _=>hs.ww (Nat.le_refl _)) D
 refine⟨hs.world (hk _) rfl rfl (fun a v h=>?_) (fun b hb=>⟨hold b (hs.mj hb),fun x=>?_⟩),⟨hk _,rfl,by rw[hw];simp,ho,ht,hu,fun b hb _=>hold b hb,fun b _ h=>h,fun a h=>?_⟩⟩
 ·simp only[bR.freeze] at h
  split at h
  ·rename_i hc
   refine⟨hc.2.1,?_⟩
   have ha:a=⟨w.heap.size,a.off,none⟩:=by cases a;simp_all
   rw[ha,fS ic]
   exact h
  ·obtain⟨h1,h2⟩:=hs.kU a v h
   exact⟨h1,by rw[gX (hold _ (tQ h2))];exact h2⟩
 ·have:=hs.mj hb
  simp [bR.freeze,Nat.ne_of_lt this]
 ·simp only[bR.freeze] at h
  split at h
  ·rename_i hc;exact .inr (.inl (by omega))
  ·exact .inl h
theorem dk.same{κ:bR}{s:St}{w w':World}(hs:dk κ s w)(hw:w'.heap=w.heap)(ho:w'.os=w.os)(ht:w'.tape=w.tape)(hu:w'.output=w.output):dk κ s w'∧iA κ s w κ s w':=by
 refine⟨hs.world (.refl _ _) rfl rfl (fun a v h=>?_) (fun b _=>⟨by rw[hw],fun _=>rfl⟩),⟨.refl _ _,rfl,by rw[hw];exact Nat.le_refl _,ho,ht,hu,fun b _ _=>by rw[hw],fun _ _ h=>h,fun _ h=>.inl h⟩⟩
 obtain⟨h1,h2⟩:=hs.kU a v h
 exact⟨h1,by rw[gX (w:=w) (by rw[hw])];exact h2⟩
theorem St.TU(s:St)(o:bg):(s.new o).aa=s.aa:=rfl
theorem St.ap4(s:St)(o:bg)(d:Nat):(s.new o).fr d=if d=s.aa then some (s.own ++ [o]) else s.fr d:=by
 unfold St.fr
 simp only[St.TU]
 by_cases hd:d=s.aa
 ·simp [hd,St.new]
 ·simp only[hd,↓reduceIte]
  rfl
structure jX (s s':St) (d i:Nat) (o:bg):Prop where
 aa:s'.aa=s.aa
 le:d≤s.aa
 fr:∀d',s'.fr d'=if d'=d then(s.fr d').map (· ++ [o]) else s.fr d'
 here:∃l,s.fr d=some l∧l.length=i
theorem jX.new(s:St)(o:bg):jX s (s.new o) s.aa s.own.length o:=by
 refine⟨rfl,Nat.le_refl _,fun d'=>?_,s.own,by simp [St.fr],rfl⟩
 rw[St.ap4]
 split
 ·rename_i h;subst h;simp [St.fr]
 ·rfl
theorem jX.get{s s':St}{d i:Nat}{o:bg}(h:jX s s' d i o)(d' i':Nat):s'.get (.g d' i')=if d'=d∧i'=i then some o else s.get (.g d' i'):=by
 rw[St.sJ,St.sJ,h.fr]
 obtain⟨l,h1,h2⟩:=h.here
 by_cases hd:d'=d
 ·subst hd
  simp only[↓reduceIte,h1,e9,jc,true_and]
  by_cases hi:i'=i
  ·subst hi;simp [h2]
  ·rw[if_neg hi]
   by_cases cM:i' < l.length
   ·rw[eZ cM]
   ·rw[List.getElem?_eq_none (by simp;omega),List.getElem?_eq_none (by omega)]
 ·simp [hd]
theorem jX.by{s s':St}{a l:Loc}{o:bg}(h:s.gK a o=some (l,s')):∃d i,l.av s.aa= .g d i∧jX s s' d i o:=by
 cases a with
 | l j=>
  simp only[St.gK,bM,Prod.mk.injEq] at h
  obtain⟨rfl,rfl⟩:=h
  exact⟨_,_,rfl,jX.new s o⟩
 | g d j=>
  simp only[St.gK] at h
  split at h
  ·simp only[bM,Prod.mk.injEq] at h
   obtain⟨rfl,rfl⟩:=h
   exact⟨_,_,rfl,jX.new s o⟩
  ·rename_i cK
   split at h
   ·rename_i hc
    cases hl:s.up[s.aa - 1 - d]? with
    | none=>rw[hl] at h;cases h
    | some fl=>
     rw[hl] at h
     simp only[bM,Prod.mk.injEq] at h
     obtain⟨rfl,rfl⟩:=h
     have hlen:s.aa=s.up.length+s.ro.length:=rfl
     have mn:s.aa - 1 - d < s.up.length:=by omega
     have hfd:s.fr d=some fl:=by
      simp only[St.fr,cK,↓reduceIte,hc.1]
      rw[eZ mn,hl]
     have xo:({s with up:=s.up.modify (s.aa - 1 - d) (· ++ [o])}:St).aa=s.aa:=by simp [St.aa]
     refine⟨d,fl.length,rfl,xo,by omega,fun d'=>?_,fl,hfd,rfl⟩
     unfold St.fr
     rw[xo]
     by_cases h1:d'=s.aa
     ·have:¬s.aa=d:=fun e=>cK e.symm
      simp [h1,this]
     ·by_cases h3:d' < s.aa
      ·simp only[h1,↓reduceIte,h3]
       by_cases h4:d'=d
       ·subst h4
        simp only[↓reduceIte]
        rw[eZ (by simpa using mn),eZ mn,List.getElem?_modify]
        simp
       ·simp only[h4,↓reduceIte]
        by_cases h5:s.aa - 1 - d' < s.up.length
        ·rw[eZ (by simpa using h5),eZ h5,List.getElem?_modify]
         have hq:¬s.aa - 1 - d=s.aa - 1 - d':=by omega
         simp [hq]
        ·rw[List.getElem?_append_right (by simpa using h5),List.getElem?_append_right (by omega)]
         simp
      ·have:¬d'=d:=by omega
       simp [h1,h3,this]
   ·cases h
theorem dk.newObj{κ κ':bR}{s:St}{w w':World}(hs:dk κ s w)(o:bg)(hk:jd κ κ' (s.aa+1)){s':St}{dd ii:Nat}(ic:jX s s' dd ii o)(hn:∀d,κ'.n d=if d=dd then κ.n d+1 else κ.n d)(tF:∀d i m,i < κ.n d→κ'.tk d i m=κ.tk d i m)
  (hF:κ'.F=κ.F∨∃lo C,(κ'.F=(κ.freeze w.heap.size lo C).F)∧∃C' e fz,w'.heap[w.heap.size]? =some (.cells C' e fz)∧∀(j:Nat) (x:Value),C[j]? =some x→C'[j]? =some x)(hold:∀b,b < w.heap.size→w'.heap[b]? =w.heap[b]?)(dM:w.heap.size≤w'.heap.size)(ho:w'.os=w.os)(ht:w'.tape=w.tape)(hu:w'.output=w.output)
  (DL:OR κ' dd ii w' o)(hb:∀b,bU κ' dd ii o=some b→w.heap.size≤b):dk κ' s' w'∧iA κ s w κ' s' w':=by
 have Jp:∀b x,b < w.heap.size→κ'.F ⟨b,x,none⟩=κ.F ⟨b,x,none⟩:=by
  intro b x hb
  rcases hF with hF | ⟨lo,C,hF,_⟩
  ·rw[hF]
  ·rw[hF];simp [bR.freeze,Nat.ne_of_lt hb]
 have key:∀d i o,s.get (.g d i)=some o→OR κ' d i w' o∧bU κ' d i o=bU κ d i o:=fun d i o h=>
  (hs.obj d i o h).aK (hs.xk h) (hk.low (by have:=St.kV h;omega)) (fun m=>tF d i m (hs.xk h)) (fun b gl=>by
   have cM:=hs.mj ⟨d,i,o,h,gl⟩
   exact⟨hold b cM,fun x=>Jp b x cM⟩)
 refine⟨⟨fun a v h=>?_,fun d l h=>?_,fun d i o' h=>?_,fun d i o₁ d' i' o₂ b h h' e e'=>?_⟩,⟨hk,ic.aa,dM,ho,ht,hu,fun b hb _=>hold b hb,fun b gl hl=>?_,fun a ha=>?_⟩⟩
 ·rcases hF with hF | ⟨lo,C,hF,C',e,fz,hC,hCC⟩
  ·rw[hF] at h
   obtain⟨h1,h2⟩:=hs.kU a v h
   exact⟨h1,by rw[gX (hold _ (tQ h2))];exact h2⟩
  ·rw[hF] at h
   simp only[bR.freeze] at h
   split at h
   ·rename_i hc
    refine⟨hc.2.1,?_⟩
    have ha:a=⟨w.heap.size,a.off,none⟩:=by cases a;simp_all
    rw[ha,fS hC]
    exact hCC _ _ h
   ·obtain⟨h1,h2⟩:=hs.kU a v h
    exact⟨h1,by rw[gX (hold _ (tQ h2))];exact h2⟩
 ·rw[ic.fr] at h
  rw[hn]
  split at h
  ·rename_i hd
   cases hf:s.fr d with
   | none=>rw[hf] at h;cases h
   | some l'=>
    rw[hf] at h
    simp only[e9,bM] at h
    rw[←h,if_pos hd,←hs.len d l' hf]
    simp
  ·rename_i hd
   rw[if_neg hd]
   exact hs.len d l h
 ·rw[ic.get] at h
  split at h
  ·rename_i hc
   obtain⟨rfl,rfl⟩:=hc
   simp only[bM] at h
   exact h ▸ DL
  ·exact(key d i o' h).1
 ·rw[ic.get] at h h'
  split at h
  ·rename_i hc
   obtain⟨rfl,rfl⟩:=hc
   simp only[bM] at h
   subst h
   split at h'
   ·rename_i nT
    exact⟨nT.1.symm,nT.2.symm⟩
   ·rw[(key d' i' o₂ h').2] at e'
    have:=hs.mj ⟨d',i',o₂,h',e'⟩
    have:=hb b e
    omega
  ·split at h'
   ·rename_i nT
    obtain⟨rfl,rfl⟩:=nT
    simp only[bM] at h'
    subst h'
    rw[(key d i o₁ h).2] at e
    have:=hs.mj ⟨d,i,o₁,h,e⟩
    have:=hb b e'
    omega
   ·rw[(key d i o₁ h).2] at e
    rw[(key d' i' o₂ h').2] at e'
    exact hs.inj d i o₁ d' i' o₂ b h h' e e'
 ·obtain⟨d,i,o',hg,Hp⟩:=hl
  rw[ic.get] at hg
  split at hg
  ·rename_i hc
   obtain⟨rfl,rfl⟩:=hc
   simp only[bM] at hg
   subst hg
   have:=hb b Hp
   omega
  ·rw[(key d i o' hg).2] at Hp
   exact⟨d,i,o',hg,Hp⟩
 ·by_cases cM:a.block < w.heap.size
  ·left
   rcases hF with hF | ⟨lo,C,hF,_⟩
   ·rwa [hF] at ha
   ·rw[hF] at ha
    simpa [bR.freeze,Nat.ne_of_lt cM] using ha
  ·exact .inr (.inl (by omega))
theorem dk.Bq{κ:bR}{s:St}{w w':World}(hs:dk κ s w)(cs:List AV)(C:Array Value)(e:TypeId)(hc:dS κ (s.aa+1) cs C.toList)(hw:w'.heap=w.heap.push (.cells C e (0,0)))(ho:w'.os=w.os)(ht:w'.tape=w.tape)(hu:w'.output=w.output):
  ∃κ',dk κ' (s.new (.cells cs)) w'∧iA κ s w κ' (s.new (.cells cs)) w'∧κ'.loc s.aa s.own.length=w.heap.size∧s.own.length < κ'.n s.aa:=by
 have kH:s.own.length=κ.n s.aa:=hs.len s.aa s.own (by simp [St.fr])
 let κ':bR:={κ with n:=fun d=>if d=s.aa then κ.n d+1 else κ.n d,loc:=fun d i=>if d=s.aa∧i=s.own.length then w.heap.size else κ.loc d i,tk:=fun d i m=>if d=s.aa∧i=s.own.length then none else κ.tk d i m}
 have cK:∀d i,i < κ.n d→¬(d=s.aa∧i=s.own.length):=by
  rintro d i hi ⟨rfl,rfl⟩
  omega
 have hk:jd κ κ' (s.aa+1):=by
  refine⟨fun _ _ h=>h,fun d _=>?_,fun d i _ hi=>?_,fun d i n x _ hi h=>?_⟩
  ·simp only[κ'];split <;> omega
  ·simp only[κ']
   rw[if_neg (cK d i hi)]
  ·simp only[κ']
   rw[if_neg (cK d i hi)];exact h
 have ic:w'.heap[w.heap.size]? =some (.cells C e (0,0)):=by rw[hw];simp
 refine⟨κ',?_⟩
 have:=hs.newObj (κ':=κ') (w':=w') (.cells cs) hk (jX.new s _) (fun d=>rfl) (fun d i m hi=>if_neg (cK d i hi)) (.inl rfl) (fun b hb=>by rw[hw,Array.getElem?_push];simp [Nat.ne_of_lt hb]) (by rw[hw];simp) ho ht hu
  ⟨⟨C,e,(0,0),by simp [κ',ic],fun j _=>by simp,by rw[show C.toList.take cs.length=C.toList from List.take_of_length_le (by rw[hc.1];exact Nat.le_refl _)];exact hc.mono hk,fun m b cap sz h=>by simp [κ'] at h⟩,fun o=>hs.ww (by simp [κ'])⟩ (fun b hb=>by simp [bU,κ'] at hb;omega)
 exact⟨this.1,this.2,by simp [κ'],by simp [κ',kH]⟩
theorem St.oF(s:St)(a:Loc)(o:bg):s.set (a.av s.aa) o=s.set a o:=by
 cases a with
 | l i=>simp [Loc.av,St.set]
 | g d i=>rfl
theorem Br(l:List (List bg))(n i:Nat)(o:bg)(m:Nat):(l.modify n (·.set i o))[m]? =if m=n then(l[m]?).map (·.set i o) else l[m]?:=by
 rw[List.getElem?_modify]
 by_cases h:m=n
 ·simp [h]
 ·simp [h,Ne.symm h]
theorem St.DM{s s':St}{d i:Nat}{o:bg}(h:s.set (.g d i) o=some s'):s'.aa=s.aa∧∀d',s'.fr d'=if d'=d then(s.fr d').map (·.set i o) else s.fr d':=by
 by_cases hd:d=s.aa
 ·simp only[St.set,hd,↓reduceIte,bM] at h
  subst h
  refine⟨rfl,fun d'=>?_⟩
  by_cases h1:d'=s.aa
  ·simp [St.fr,St.aa,h1,hd]
  ·have nk:¬d'=s.up.length+s.ro.length:=h1
   simp only[St.fr,St.aa,nk,hd,↓reduceIte]
   rfl
 ·by_cases h2:d < s.aa∧s.ro.length≤d
  ·simp only[St.set,hd,↓reduceIte,h2,and_self,bM] at h
   subst h
   have xo:({s with up:=s.up.modify (s.aa - 1 - d) (·.set i o)}:St).aa=s.aa:=by simp [St.aa]
   refine⟨xo,fun d'=>?_⟩
   unfold St.fr
   rw[xo]
   by_cases h1:d'=s.aa
   ·have:¬s.aa=d:=fun e=>hd e.symm
    simp [h1,this]
   ·by_cases h3:d' < s.aa
    ·have hlen:s.aa=s.up.length+s.ro.length:=rfl
     have mn:s.aa - 1 - d < s.up.length:=by omega
     simp only[h1,↓reduceIte,h3]
     by_cases h4:d'=d
     ·subst h4
      simp only[↓reduceIte]
      rw[eZ (by simpa using mn),eZ mn,Br]
      simp
     ·simp only[h4,↓reduceIte]
      by_cases h5:s.aa - 1 - d' < s.up.length
      ·rw[eZ (by simpa using h5),eZ h5,Br,if_neg (by omega)]
      ·rw[List.getElem?_append_right (by simpa using h5),List.getElem?_append_right (by omega)]
       simp
    ·by_cases h4:d'=d
     ·exact absurd (h4 ▸ h2.1) h3
     ·simp [h1,h3,h4]
  ·have h3:¬(d < s.aa∧s.ro.length≤d):=h2
   simp [St.set,hd,h3] at h
theorem St.DN{s s':St}{d i:Nat}{o o₀:bg}(h:s.set (.g d i) o=some s')(hg:s.get (.g d i)=some o₀)(d' i':Nat):s'.get (.g d' i')=if d'=d∧i'=i then some o else s.get (.g d' i'):=by
 rw[St.sJ,(St.DM h).2 d',St.sJ]
 by_cases hd:d'=d
 ·subst hd
  rw[St.sJ] at hg
  cases hf:s.fr d' with
  | none=>simp [hf] at hg
  | some l=>
   rw[hf] at hg
   simp only[jc] at hg
   have hi:i < l.length:=(bZ.1 hg).1
   simp only[↓reduceIte,e9,jc,true_and]
   by_cases hii:i'=i
   ·subst hii;simp [hi]
   ·rw[if_neg hii,eM (fun e=>hii e.symm)]
 ·simp [hd]
theorem dk.setObj{κ κ':bR}{s s':St}{w w':World}(hs:dk κ s w){d i:Nat}{o o':bg}(hg:s.get (.g d i)=some o)(dm:s.set (.g d i) o'=some s')(hk:jd κ κ' (s.aa+1))(hn:κ'.n=κ.n)
  (tF:∀d' i' m,¬(d'=d∧i'=i)→κ'.tk d' i' m=κ.tk d' i' m)(hF:∀a v,κ'.F a=some v→a.spot=none∧w'.cell? a=some v)
  (hold:∀b,b < w.heap.size→bU κ d i o≠some b→w'.heap[b]? =w.heap[b]?∧∀x,κ'.F ⟨b,x,none⟩=κ.F ⟨b,x,none⟩)
  (dM:w.heap.size≤w'.heap.size)(ho:w'.os=w.os)(ht:w'.tape=w.tape)(hu:w'.output=w.output)
  (DL:OR κ' d i w' o')(hb:∀b,bU κ' d i o'=some b→bU κ d i o=some b∨w.heap.size≤b):dk κ' s' w'∧iA κ s w κ' s' w':=by
 have kh:=St.DN dm hg
 obtain⟨xo,bS⟩:=St.DM dm
 have key:∀d₁ i₁ o₁,¬(d₁=d∧i₁=i)→s.get (.g d₁ i₁)=some o₁→OR κ' d₁ i₁ w' o₁∧bU κ' d₁ i₁ o₁=bU κ d₁ i₁ o₁:=fun d₁ i₁ o₁ cK h=>
  (hs.obj d₁ i₁ o₁ h).aK (hs.xk h) (hk.low (by have:=St.kV h;omega)) (fun m=>tF d₁ i₁ m cK) (fun b gl=>by
   have cM:=hs.mj ⟨d₁,i₁,o₁,h,gl⟩
   exact hold b cM (fun e=>cK (hs.inj d₁ i₁ o₁ d i o b h hg gl e)))
 refine⟨⟨hF,fun d₁ l h=>?_,fun d₁ i₁ o₁ h=>?_,fun d₁ i₁ o₁ d₂ i₂ o₂ b h h' e e'=>?_⟩,⟨hk,xo,dM,ho,ht,hu,fun b hb hl=>(hold b hb (fun e=>hl ⟨d,i,o,hg,e⟩)).1,fun b gl hl=>?_,fun a ha=>?_⟩⟩
 ·rw[bS] at h
  rw[hn]
  split at h
  ·cases hf:s.fr d₁ with
   | none=>simp [hf] at h
   | some l'=>rw[hf] at h;simp only[e9,bM] at h;rw[←h];simpa using hs.len d₁ l' hf
  ·exact hs.len d₁ l h
 ·rw[kh] at h
  split at h
  ·rename_i hc
   obtain⟨rfl,rfl⟩:=hc
   simp only[bM] at h
   exact h ▸ DL
  ·rename_i hc
   exact(key d₁ i₁ o₁ hc h).1
 ·rw[kh] at h h'
  split at h
  ·rename_i hc
   obtain⟨rfl,rfl⟩:=hc
   simp only[bM] at h
   subst h
   split at h'
   ·rename_i nT;exact⟨nT.1.symm,nT.2.symm⟩
   ·rename_i nT
    rw[(key d₂ i₂ o₂ nT h').2] at e'
    rcases hb b e with h1 | h1
    ·obtain⟨h2,h3⟩:=hs.inj d₂ i₂ o₂ _ _ o b h' hg e' h1;exact absurd ⟨h2,h3⟩ nT
    ·have:=hs.mj ⟨d₂,i₂,o₂,h',e'⟩;omega
  ·rename_i hc
   rw[(key d₁ i₁ o₁ hc h).2] at e
   split at h'
   ·rename_i nT
    obtain⟨rfl,rfl⟩:=nT
    simp only[bM] at h'
    subst h'
    rcases hb b e' with h1 | h1
    ·obtain⟨h2,h3⟩:=hs.inj d₁ i₁ o₁ _ _ o b h hg e h1;exact absurd ⟨h2,h3⟩ hc
    ·have:=hs.mj ⟨d₁,i₁,o₁,h,e⟩;omega
   ·rename_i nT
    rw[(key d₂ i₂ o₂ nT h').2] at e'
    exact hs.inj d₁ i₁ o₁ d₂ i₂ o₂ b h h' e e'
 ·obtain⟨d₁,i₁,o₁,h,Hp⟩:=hl
  rw[kh] at h
  split at h
  ·rename_i hc
   obtain⟨rfl,rfl⟩:=hc
   simp only[bM] at h
   subst h
   rcases hb b Hp with h1 | h1
   ·exact⟨_,_,o,hg,h1⟩
   ·omega
  ·rename_i hc
   rw[(key d₁ i₁ o₁ hc h).2] at Hp
   exact⟨d₁,i₁,o₁,h,Hp⟩
 ·by_cases cM:a.block < w.heap.size
  ·by_cases hbo:bU κ d i o=some a.block
   ·exact .inr (.inr ⟨d,i,o,hg,hbo⟩)
   ·left
    cases hx:κ'.F a with
    | none=>exact absurd hx ha
    | some v=>
     have hsp:=(hF a v hx).1
     have h1:=(hold a.block cM hbo).2 a.off
     have haa:a=⟨a.block,a.off,none⟩:=by cases a;simp_all
     rw[haa,←h1,←haa]
     exact ha
  ·exact .inr (.inl (by omega))
theorem xp{α:Type}:∀(l:List α) (off:Nat) (xs:List α) (n:Nat),off+xs.length≤n→(di l off xs).take n=di (l.take n) off xs
 | l,off,[],n,_=>rfl
 | l,off,x :: xs,n,h=>by
  simp only[di]
  rw[xp _ _ xs n (by simp at h;omega)]
  congr 1
  rw[List.take_set]
theorem dk.store{κ:bR}{s s':St}{w:World}(hs:dk κ s w){d i off:Nat}{cs vs:List AV}{xs:List Value}(hg:s.get (.g d i)=some (.cells cs))(dm:s.set (.g d i) (.cells (di cs off vs))=some s')
  (hv:dS κ (d+1) vs xs)(ho:off+vs.length≤cs.length):dk κ s' (w.setCells (κ.loc d i) off xs)∧iA κ s w κ s' (w.setCells (κ.loc d i) off xs):=by
 obtain⟨⟨C,e,fz,h1,h2,h3,h5'⟩,h4⟩:=hs.obj d i _ hg
 have nU:xs.length=vs.length:=hv.1
 have hCl:cs.length≤C.size:=by have:=h3.1;simp at this;omega
 have kW:=qd xs w (κ.loc d i) off C e fz h1 (by omega)
 obtain⟨r1,r2,r3⟩:=qf xs w (κ.loc d i) off
 refine hs.setObj hg dm (.refl _ _) rfl (fun _ _ _ _=>rfl) (fun a v h=>?_) (fun b _ hb=>⟨?_,fun _=>rfl⟩) (by rw[qe];exact Nat.le_refl _) r1 r2 r3 ⟨⟨(di C.toList off xs).toArray,e,fz,by rw[kW];simp,by simpa [gA] using h2,by simpa [gA,xp C.toList off xs cs.length (by omega)] using h3.di hv ho,fun m b cap sz hm=>by simpa [gA] using h5' m b cap sz hm⟩,h4⟩ (fun b hb=>.inl hb)
 ·obtain⟨h5,h6⟩:=hs.kU a v h
  refine⟨h5,?_⟩
  rw[gX (w:=w) ?_]
  ·exact h6
  ·rw[kW,if_neg]
   intro e1
   have haa:a=⟨κ.loc d i,a.off,none⟩:=by cases a;simp_all
   rw[haa,h4] at h
   cases h
 ·rw[kW,if_neg (fun e1=>hb (by simp [bU,e1]))]
theorem dk.DO{κ:bR}{s s':St}{w:World}(hs:dk κ s w){d i:Nat}{cs:List AV}(hg:s.get (.g d i)=some (.cells cs))(dm:s.set (.g d i) .gone=some s'):
  ∃C e fz,w.heap[κ.loc d i]? =some (.cells C e fz)∧dS κ (d+1) cs (C.toList.take cs.length)∧dk (κ.freeze (κ.loc d i) 0 C) s' w∧iA κ s w (κ.freeze (κ.loc d i) 0 C) s' w:=by
 obtain⟨⟨C,e,fz,h1,h2,h3,_⟩,h4⟩:=hs.obj d i _ hg
 refine⟨C,e,fz,h1,h3,?_⟩
 refine hs.setObj hg dm (jd.freeze (fun j _=>h4 j) _) rfl (fun _ _ _ _=>rfl) (fun a v h=>?_) (fun b _ hb=>⟨rfl,fun x=>?_⟩) (Nat.le_refl _) rfl rfl rfl trivial (fun b hb=>by simp [bU] at hb)
 ·simp only[bR.freeze] at h
  split at h
  ·rename_i hc
   refine⟨hc.2.1,?_⟩
   have ha:a=⟨κ.loc d i,a.off,none⟩:=by cases a;simp_all
   rw[ha,fS h1]
   exact h
  ·exact hs.kU a v h
 ·simp only[bU,ne_eq,bM] at hb
  simp [bR.freeze,Ne.symm hb]
theorem dk.ap5{κ:bR}{s s':St}{w w':World}(hs:dk κ s w){dd ii:Nat}(DP:jX s s' dd ii (.map []))(hw:w'.heap=w.heap.push (.map #[] 0))(ho:w'.os=w.os)(ht:w'.tape=w.tape)(hu:w'.output=w.output):
  ∃κ',dk κ' s' w'∧iA κ s w κ' s' w'∧κ'.loc dd ii=w.heap.size∧ii < κ'.n dd:=by
 have kH:ii=κ.n dd:=by obtain⟨l,h1,h2⟩:=DP.here;rw[←h2];exact hs.len dd l h1
 let κ':bR:={κ with n:=fun d=>if d=dd then κ.n d+1 else κ.n d,loc:=fun d i=>if d=dd∧i=ii then w.heap.size else κ.loc d i}
 have hk:jd κ κ' (s.aa+1):=by
  refine⟨fun _ _ h=>h,fun d _=>?_,fun d i _ hi=>?_,fun _ _ _ _ _ _ h=>h⟩
  ·simp only[κ'];split <;> omega
  ·simp only[κ']
   rw[if_neg]
   rintro ⟨rfl,rfl⟩
   omega
 have ic:w'.heap[w.heap.size]? =some (.map #[] 0):=by rw[hw];simp
 refine⟨κ',?_⟩
 have:=hs.newObj (κ':=κ') (w':=w') (.map []) hk DP (fun d=>rfl) (fun _ _ _ _=>rfl) (.inl rfl) (fun b hb=>by rw[hw,Array.getElem?_push];simp [Nat.ne_of_lt hb]) (by rw[hw];simp) ho ht hu
  ⟨#[],0,by simp [κ',ic],rfl,fun j p e hp=>by simp at hp⟩ (fun b hb=>by simp [bU,κ'] at hb;omega)
 exact⟨this.1,this.2,by simp [κ'],by simp [κ',kH]⟩
theorem dk.YO{κ:bR}{s s':St}{w:World}(hs:dk κ s w){d i:Nat}{es CK:List (AV×AV)}{iJ:Array MapEntry}{clock:Nat}(hg:s.get (.g d i)=some (.map es))(dm:s.set (.g d i) (.map CK)=some s')(hm:qb κ (d+1) CK iJ.toList):
  dk κ s' {w with heap:=w.heap.setIfInBounds (κ.loc d i) (.map iJ clock)}∧iA κ s w κ s' {w with heap:=w.heap.setIfInBounds (κ.loc d i) (.map iJ clock)}:=by
 obtain⟨aFV,aFQ,h1,h2⟩:=hs.obj d i _ hg
 have cM:κ.loc d i < w.heap.size:=(Array.getElem?_eq_some_iff.1 h1).1
 have kW:∀b,(w.heap.setIfInBounds (κ.loc d i) (.map iJ clock))[b]? =if b=κ.loc d i then some (.map iJ clock) else w.heap[b]?:=by
  intro b
  rw[Array.getElem?_setIfInBounds]
  by_cases hb:κ.loc d i=b
  ·subst hb;simp [cM]
  ·have:¬b=κ.loc d i:=fun e=>hb e.symm
   simp [hb,this]
 refine hs.setObj (w':={w with heap:=w.heap.setIfInBounds (κ.loc d i) (.map iJ clock)}) hg dm (.refl _ _) rfl (fun _ _ _ _=>rfl) (fun a v h=>?_) (fun b _ hb=>⟨?_,fun _=>rfl⟩) (by simp) rfl rfl rfl ⟨iJ,clock,by simp [kW],hm⟩ (fun b hb=>.inl hb)
 ·obtain⟨h5,h6⟩:=hs.kU a v h
  refine⟨h5,?_⟩
  rw[gX (w:=w) ?_]
  ·exact h6
  ·show(w.heap.setIfInBounds _ _)[_]? =_
   rw[kW,if_neg]
   intro e1
   have:w.cell? a=none:=by simp [World.cell?,e1,h1]
   rw[this] at h6
   cases h6
 ·show(w.heap.setIfInBounds _ _)[_]? =_
  rw[kW,if_neg (fun e1=>hb (by simp [bU,e1]))]
theorem dk.YP{κ:bR}{s:St}{w w':World}(hs:dk κ s w){s':St}{dd ii:Nat}(C:Array Value)(e:TypeId)(n sz cap:Nat)(DP:jX s s' dd ii (.tok n))(hC:C.size=cap * sz)(hn:n≤cap)(hw:w'.heap=w.heap.push (.cells C e (0,0)))(ho:w'.os=w.os)(ht:w'.tape=w.tape)(hu:w'.output=w.output):
  ∃κ',dk κ' s' w'∧iA κ s w κ' s' w'∧ii < κ'.n dd∧κ'.tk dd ii n=some (⟨w.heap.size,0,none⟩,cap,sz)∧∀j,j < n * sz→κ'.F ⟨w.heap.size,j,none⟩=C[j]?:=by
 have kH:ii=κ.n dd:=by obtain⟨l,h1,h2⟩:=DP.here;rw[←h2];exact hs.len dd l h1
 have hle:n * sz≤C.size:=by rw[hC];exact Nat.mul_le_mul_right _ hn
 have hEl:((C.toList.take (n * sz)).toArray).size=n * sz:=by simp;omega
 let κ':bR:={(κ.freeze w.heap.size 0 (C.toList.take (n * sz)).toArray) with n:=fun d=>if d=dd then κ.n d+1 else κ.n d,tk:=fun d i m=>if d=dd∧i=ii then(if m=n then some (⟨w.heap.size,0,none⟩,cap,sz) else none) else κ.tk d i m}
 have hk:jd κ κ' (s.aa+1):=by
  refine⟨fun a v h=>?_,fun d _=>?_,fun _ _ _ _=>rfl,fun d i m x _ hi h=>?_⟩
  ·exact(jd.freeze (fun j _=>hs.ww (Nat.le_refl _)) (s.aa+1)).F a v h
  ·simp only[κ'];split <;> omega
  ·simp only[κ']
   rw[if_neg]
   ·exact h
   ·rintro ⟨rfl,rfl⟩;omega
 have ic:w'.heap[w.heap.size]? =some (.cells C e (0,0)):=by rw[hw];simp
 have hFC:∀j,j < n * sz→κ'.F ⟨w.heap.size,j,none⟩=C[j]?:=by
  intro j hj
  simp only[κ',bR.freeze]
  rw[if_pos (⟨trivial,trivial,Nat.zero_le _,by rw[hEl];exact hj⟩:True∧True∧0≤j∧j < ((C.toList.take (n * sz)).toArray).size)]
  simp [hj]
 have hold:∀b,b < w.heap.size→w'.heap[b]? =w.heap[b]?:=fun b hb=>by rw[hw,Array.getElem?_push];simp [Nat.ne_of_lt hb]
 refine⟨κ',?_⟩
 have main:=hs.newObj (κ':=κ') (w':=w') (.tok n) hk DP (fun d=>rfl) (fun d i m hi=>?_) ?hF hold (by rw[hw];simp) ho ht hu
  ⟨w.heap.size,cap,sz,by simp [κ'],hn,⟨C,e,(0,0),ic,hC,fun j _=>by simp⟩,fun o h1=>?_,fun m hm=>?_⟩ (fun b hb=>?_)
 case hF=>exact .inr ⟨0,(C.toList.take (n * sz)).toArray,rfl,C,e,(0,0),ic,fun j x hx=>by
  rw[List.getElem?_toArray,List.getElem?_take] at hx
  split at hx
  ·simpa using hx
  ·cases hx⟩
 ·exact⟨main.1,main.2,by simp [κ',kH],by simp [κ'],hFC⟩
 ·simp only[κ']
  rw[if_neg]
  rintro ⟨rfl,rfl⟩
  omega
 ·simp only[κ',bR.freeze]
  rw[if_neg (by intro h;have:=h.2.2.2;rw[hEl] at this;omega)]
  exact hs.ww (Nat.le_refl _)
 ·simp only[κ']
  rw[if_pos (by simp),if_neg (by omega)]
 ·simp [bU,κ'] at hb
  omega
theorem dk.aib{κ:bR}{s s':St}{w:World}(hs:dk κ s w){d i n m b cap sz:Nat}(hg:s.get (.g d i)=some (.tok n))(tF:κ.tk d i n=some (⟨b,0,none⟩,cap,sz))(dm:s.set (.g d i) (.tok m)=some s')
  (hnm:n < m)(hm:m≤cap)(xs:List Value)(hx:xs.length=(m - n) * sz):
  ∃κ',dk κ' s' (w.setCells b (n * sz) xs)∧iA κ s w κ' s' (w.setCells b (n * sz) xs)∧κ'.tk d i m=some (⟨b,0,none⟩,cap,sz)∧∀j x,xs[j]? =some x→κ'.F ⟨b,n * sz+j,none⟩=some x:=by
 obtain⟨b',aid,sz',h1,h0,⟨C,e,fz,h2,h3,h4⟩,h5,h6⟩:=hs.obj d i _ hg
 rw[tF] at h1
 simp only[bM,Prod.mk.injEq,Addr.mk.injEq,and_true] at h1
 obtain⟨rfl,rfl,rfl⟩:=h1
 obtain⟨hdd,hii⟩:=hs.YN hg
 have hmul:n * sz+(m - n) * sz=m * sz:=by rw[←Nat.add_mul];congr 1;omega
 have hle:m * sz≤C.size:=by rw[h3];exact Nat.mul_le_mul_right _ hm
 have kW:=qd xs w b (n * sz) C e fz h2 (by omega)
 obtain⟨r1,r2,r3⟩:=qf xs w b (n * sz)
 let E:Array Value:=((di C.toList (n * sz) xs).take (m * sz)).toArray
 have hE:E.size=m * sz:=by simp [E,gA];omega
 have hEx:∀j,n * sz≤j→j < m * sz→E[j]? =xs[j - n * sz]?:=by
  intro j hj Md
  simp only[E,List.getElem?_toArray,List.getElem?_take,Md,↓reduceIte]
  rw[iK _ _ _ (by simp;omega),if_pos ⟨hj,by omega⟩]
 let κ':bR:={(κ.freeze b (n * sz) E) with tk:=fun d' i' m'=>if d'=d∧i'=i∧m'=m then some (⟨b,0,none⟩,cap,sz) else κ.tk d' i' m'}
 have hk:jd κ κ' (s.aa+1):=by
  refine⟨fun a v h=>(jd.freeze (fun j hj=>h5 j hj) (s.aa+1)).F a v h,fun _ _=>Nat.le_refl _,fun _ _ _ _=>rfl,fun d' i' m' x _ _ h=>?_⟩
  simp only[κ']
  split
  ·rename_i hc
   obtain⟨rfl,rfl,rfl⟩:=hc
   rw[h6 _ hnm] at h
   cases h
  ·exact h
 have hF:∀a v,κ'.F a=some v→a.spot=none∧(w.setCells b (n * sz) xs).cell? a=some v:=by
  intro a v h
  simp only[κ',bR.freeze] at h
  split at h
  ·rename_i hc
   obtain⟨c1,c2,c3,c4⟩:=hc
   rw[hE] at c4
   refine⟨c2,?_⟩
   have ha:a=⟨b,a.off,none⟩:=by cases a;simp_all
   rw[ha,fS (by rw[kW,if_pos rfl])]
   rw[hEx _ c3 c4] at h
   rw[List.getElem?_toArray,iK _ _ _ (by simp;omega),if_pos ⟨c3,by omega⟩]
   exact h
  ·obtain⟨q1,q2⟩:=hs.kU a v h
   refine⟨q1,?_⟩
   by_cases hb:a.block=b
   ·have ha:a=⟨b,a.off,none⟩:=by cases a;simp_all
    have cM:a.off < n * sz:=by
     rcases Nat.lt_or_ge a.off (n * sz) with q | q
     ·exact q
     ·rw[ha,h5 _ q] at h;cases h
    rw[ha,fS h2] at q2
    rw[ha,fS (by rw[kW,if_pos rfl]),List.getElem?_toArray,iK _ _ _ (by simp;omega),if_neg (by omega)]
    simpa using q2
   ·rw[gX (w:=w) (by rw[kW,if_neg hb])]
    exact q2
 refine⟨κ',?_⟩
 have main:=hs.setObj (κ':=κ') (w':=w.setCells b (n * sz) xs) hg dm hk rfl (fun d' i' m' cK=>?_) hF (fun b' _ gl=>⟨?_,fun x=>?_⟩) (by rw[qe];exact Nat.le_refl _) r1 r2 r3
  ⟨b,cap,sz,by simp [κ'],hm,⟨(di C.toList (n * sz) xs).toArray,e,fz,by rw[kW];simp,by simp [gA,h3],by simpa [gA] using h4⟩,fun o ho=>?_,fun m' Hq=>?_⟩ (fun b' gl=>?_)
 ·refine⟨main.1,main.2,by simp [κ'],fun j x hj=>?_⟩
  have oT:j < xs.length:=(bZ.1 hj).1
  have q1:n * sz≤n * sz+j:=Nat.le_add_right _ _
  have q2:n * sz+j < m * sz:=by omega
  simp only[κ',bR.freeze]
  rw[if_pos (⟨trivial,trivial,q1,by rw[hE];exact q2⟩:True∧True∧n * sz≤n * sz+j∧n * sz+j < E.size),hEx _ q1 q2,Nat.add_sub_cancel_left,hj]
 ·simp only[κ']
  rw[if_neg]
  rintro ⟨rfl,rfl,_⟩
  exact cK ⟨rfl,rfl⟩
 ·rw[kW,if_neg]
  rintro rfl
  exact gl (by simp [bU,tF])
 ·have:b'≠b:=by rintro rfl;exact gl (by simp [bU,tF])
  simp [κ',bR.freeze,this]
 ·simp only[κ',bR.freeze]
  rw[if_neg]
  ·exact h5 o (by omega)
  ·rintro ⟨_,_,_,q⟩
   rw[hE] at q
   omega
 ·simp only[κ']
  rw[if_neg (by omega)]
  exact h6 m' (by omega)
 ·left
  simp [bU,κ'] at gl
  simp [bU,tF,gl]
theorem dk.aie{κ:bR}{s s':St}{w w':World}(hs:dk κ s w){d i n m:Nat}(hg:s.get (.g d i)=some (.tok n))(dm:s.set (.g d i) (.tok m)=some s')(hnm:n < m)
  (C:Array Value)(e:TypeId)(cap sz:Nat)(hC:C.size=cap * sz)(hm:m≤cap)(hw:w'.heap=w.heap.push (.cells C e (0,0)))(ho:w'.os=w.os)(ht:w'.tape=w.tape)(hu:w'.output=w.output):
  ∃κ',dk κ' s' w'∧iA κ s w κ' s' w'∧κ'.tk d i m=some (⟨w.heap.size,0,none⟩,cap,sz)∧∀j,j < m * sz→κ'.F ⟨w.heap.size,j,none⟩=C[j]?:=by
 obtain⟨b,aid,sz',h1,h0,⟨C',e',fz',h2,h3,h4⟩,h5,h6⟩:=hs.obj d i _ hg
 obtain⟨hdd,hii⟩:=hs.YN hg
 have hle:m * sz≤C.size:=by rw[hC];exact Nat.mul_le_mul_right _ hm
 have hEl:((C.toList.take (m * sz)).toArray).size=m * sz:=by simp;omega
 have hold:∀b,b < w.heap.size→w'.heap[b]? =w.heap[b]?:=fun b hb=>by rw[hw,Array.getElem?_push];simp [Nat.ne_of_lt hb]
 have ic:w'.heap[w.heap.size]? =some (.cells C e (0,0)):=by rw[hw];simp
 let κ':bR:={(κ.freeze w.heap.size 0 (C.toList.take (m * sz)).toArray) with tk:=fun d' i' m'=>if d'=d∧i'=i∧m'=m then some (⟨w.heap.size,0,none⟩,cap,sz) else κ.tk d' i' m'}
 have hk:jd κ κ' (s.aa+1):=by
  refine⟨fun a v h=>(jd.freeze (fun j hj=>hs.ww (Nat.le_refl _)) (s.aa+1)).F a v h,fun _ _=>Nat.le_refl _,fun _ _ _ _=>rfl,fun d' i' m' x _ _ h=>?_⟩
  simp only[κ']
  split
  ·rename_i hc
   obtain⟨rfl,rfl,rfl⟩:=hc
   rw[h6 _ hnm] at h
   cases h
  ·exact h
 have hFC:∀j,j < m * sz→κ'.F ⟨w.heap.size,j,none⟩=C[j]?:=by
  intro j hj
  simp only[κ',bR.freeze]
  rw[if_pos (⟨trivial,trivial,Nat.zero_le _,by rw[hEl];exact hj⟩:True∧True∧0≤j∧j < ((C.toList.take (m * sz)).toArray).size)]
  simp [hj]
 refine⟨κ',?_⟩
 have main:=hs.setObj (κ':=κ') (w':=w') hg dm hk rfl (fun d' i' m' cK=>?_) (fun a v h=>?_) (fun b' gl _=>⟨hold b' gl,fun x=>?_⟩) (by rw[hw];simp) ho ht hu
  ⟨w.heap.size,cap,sz,by simp [κ'],hm,⟨C,e,(0,0),ic,hC,fun j _=>by simp⟩,fun o ho'=>?_,fun m' Hq=>?_⟩ (fun b' gl=>?_)
 ·exact⟨main.1,main.2,by simp [κ'],hFC⟩
 ·simp only[κ']
  rw[if_neg]
  rintro ⟨rfl,rfl,_⟩
  exact cK ⟨rfl,rfl⟩
 ·simp only[κ',bR.freeze] at h
  split at h
  ·rename_i hc
   obtain⟨c1,c2,c3,c4⟩:=hc
   rw[hEl] at c4
   refine⟨c2,?_⟩
   have ha:a=⟨w.heap.size,a.off,none⟩:=by cases a;simp_all
   rw[ha,fS ic]
   rw[List.getElem?_toArray,List.getElem?_take] at h
   simpa [c4] using h
  ·obtain⟨q1,q2⟩:=hs.kU a v h
   exact⟨q1,by rw[gX (hold _ (tQ q2))];exact q2⟩
 ·simp [κ',bR.freeze,Nat.ne_of_lt gl]
 ·simp only[κ',bR.freeze]
  rw[if_neg (by intro h;have:=h.2.2.2;rw[hEl] at this;omega)]
  exact hs.ww (Nat.le_refl _)
 ·simp only[κ']
  rw[if_neg (by omega)]
  exact h6 m' (by omega)
 ·right
  simp [bU,κ'] at gl
  omega
def St.push(s:St):St:={own:=[],up:=s.own :: s.up,ro:=s.ro}
theorem St.oG(s:St):s.push.aa=s.aa+1:=by simp [St.push,St.aa];omega
theorem St.DQ(s:St)(d:Nat):s.push.fr d=if d=s.aa+1 then some [] else s.fr d:=by
 unfold St.fr
 rw[St.oG]
 by_cases h1:d=s.aa+1
 ·simp [h1,St.push]
 ·simp only[h1,↓reduceIte]
  by_cases h2:d=s.aa
  ·simp [h2,St.push]
  ·by_cases h3:d < s.aa
   ·have h4:d < s.aa+1:=by omega
    simp only[h2,h3,h4,↓reduceIte,St.push]
    rw[show s.aa+1 - 1 - d=(s.aa - 1 - d)+1 by omega,List.cons_append,List.getElem?_cons_succ]
   ·have h4:¬d < s.aa+1:=by omega
    simp [h2,h3,h4]
theorem St.rM(s:St)(d i:Nat):s.push.get (.g d i)=s.get (.g d i):=by
 rw[St.sJ,St.sJ,St.DQ]
 by_cases h:d=s.aa+1
 ·subst h
  have h1:s.fr (s.aa+1)=none:=by
   have q:¬s.aa+1 < s.aa:=by omega
   simp [St.fr,q]
  simp [h1]
 ·simp [h]
theorem dk.push{κ:bR}{s:St}{w:World}(hs:dk κ s w):∃κ',dk κ' s.push w∧jd κ κ' (s.aa+1)∧κ'.F=κ.F∧∀d i o,s.get (.g d i)=some o→bU κ' d i o=bU κ d i o:=by
 refine⟨{κ with n:=fun d=>if d=s.aa+1 then 0 else κ.n d},?_⟩
 have hk:jd κ {κ with n:=fun d=>if d=s.aa+1 then 0 else κ.n d} (s.aa+1):=by
  refine⟨fun _ _ h=>h,fun d hd=>?_,fun _ _ _ _=>rfl,fun _ _ _ _ _ _ h=>h⟩
  simp only
  rw[if_neg (by omega)]
  exact Nat.le_refl _
 have key:∀d i o,s.get (.g d i)=some o→OR {κ with n:=fun d=>if d=s.aa+1 then 0 else κ.n d} d i w o∧bU {κ with n:=fun d=>if d=s.aa+1 then 0 else κ.n d} d i o=bU κ d i o:=fun d i o h=>
  (hs.obj d i o h).aK (hs.xk h) (hk.low (by have:=St.kV h;omega)) (fun m=>rfl) (fun b _=>⟨rfl,fun _=>rfl⟩)
 refine⟨⟨hs.kU,fun d l h=>?_,fun d i o h=>?_,fun d i o d' i' o' b h h' e e'=>?_⟩,hk,rfl,fun d i o h=>(key d i o h).2⟩
 ·rw[St.DQ] at h
  split at h
  ·rename_i hd;simp only[bM] at h;simp [←h,hd]
  ·rename_i hd;simp only[hd,↓reduceIte];exact hs.len d l h
 ·rw[St.rM] at h
  exact(key d i o h).1
 ·rw[St.rM] at h h'
  rw[(key d i o h).2] at e
  rw[(key d' i' o' h').2] at e'
  exact hs.inj d i o d' i' o' b h h' e e'
theorem St.DR{s:St}{own:List bg}{up:List (List bg)}(h:s.up=own :: up):({own,up,ro:=s.ro}:St).push= {s with own:=[]}:=by
 simp [St.push,h]
theorem St.xq{s:St}{own:List bg}{up:List (List bg)}(h:s.up=own :: up){d i:Nat}{o:bg}(hg:({own,up,ro:=s.ro}:St).get (.g d i)=some o):s.get (.g d i)=some o:=by
 have hd:=St.kV hg
 rw[←St.rM,St.DR h] at hg
 have hsd:s.aa=({own,up,ro:=s.ro}:St).aa+1:=by simp [St.aa,h];omega
 have cK:d≠s.aa:=by omega
 unfold St.get at hg ⊢
 have e:({s with own:=[]}:St).aa=s.aa:=rfl
 rw[e] at hg
 simp only[cK,↓reduceIte] at hg ⊢
 exact hg
theorem dk.pop{κ:bR}{s:St}{w:World}(hs:dk κ s w){own:List bg}{up:List (List bg)}(h:s.up=own :: up):dk κ {own,up,ro:=s.ro} w:=by
 refine⟨hs.kU,fun d l hd=>?_,fun d i o hg=>hs.obj d i o (St.xq h hg),fun d i o d' i' o' b hg qg=>hs.inj d i o d' i' o' b (St.xq h hg) (St.xq h qg)⟩
 have hsd:s.aa=({own,up,ro:=s.ro}:St).aa+1:=by simp [St.aa,h];omega
 have cM:d≤({own,up,ro:=s.ro}:St).aa:=by
  rcases Nat.lt_or_ge ({own,up,ro:=s.ro}:St).aa d with q | q
  ·have q1:d≠({own,up,ro:=s.ro}:St).aa:=by omega
   have q2:¬d < ({own,up,ro:=s.ro}:St).aa:=by omega
   simp [St.fr,q1,q2] at hd
  ·exact q
 have q:({own,up,ro:=s.ro}:St).push.fr d=some l:=by rw[St.DQ,if_neg (by omega)];exact hd
 rw[St.DR h] at q
 refine hs.len d l ?_
 unfold St.fr at q ⊢
 have e:({s with own:=[]}:St).aa=s.aa:=rfl
 rw[e] at q
 have cK:d≠s.aa:=by omega
 simp only[cK,↓reduceIte] at q ⊢
 exact q
theorem dk.empty{κ:bR}{s:St}{w:World}(hs:dk κ s w):dk {κ with n:=fun _=>0} {own:=[],up:=[],ro:=[]} w:=by
 have tR:∀d i,({own:=[],up:=[],ro:=[]}:St).get (.g d i)=none:=by intro d i;simp [St.get]
 refine⟨hs.kU,fun d l h=>?_,fun d i o h=>?_,fun d i o d' i' o' b h=>?_⟩
 ·unfold St.fr at h
  simp at h
  simp [h]
 ·rw[tR] at h;cases h
 ·rw[tR] at h;cases h
def DS:List AV→Gr→Value→Bool
 | [], .nil, .slice none 0 0=>true
 | _,_,_=>false
theorem DT{es:List AV}{g:Gr}{x:Value}(h:DS es g x=true):es=[]∧g= .nil∧x= .slice none 0 0:=by
 unfold DS at h
 split at h
 ·exact⟨rfl,rfl,rfl⟩
 ·cases h
def Jr:Value→Bool
 | .pointer none=>true
 | _=>false
theorem Hr{x:Value}(h:Jr x=true):x= .pointer none:=by
 unfold Jr at h
 split at h
 ·rfl
 ·cases h
def Js:Value→Bool
 | .map none=>true
 | _=>false
theorem Hs{x:Value}(h:Js x=true):x= .map none:=by
 unfold Js at h
 split at h
 ·rfl
 ·cases h
mutual
def iF:AV→Value→Bool
 | .bool a, .bool b=>a == b
 | .int k a, .int k' b=>decide (k=k') && a == b
 | .str bs, .string s=>bs == s.data.toList.map UInt8.toNat
 | .sl _ es g,x=>DS es g x
 | .iz,x=>Jr x
 | .fR, .nilFunc=>true
 | .dI,x=>Js x
 | .fa, .nilIface=>true
 | .agg cs, .agg xs=>qR cs xs.toList
 | .cS [], .tuple xs=>xs.size == 0
 | _,_=>false
def qR:List AV→List Value→Bool
 | [],[]=>true
 | c :: cs,x :: xs=>iF c x && qR cs xs
 | _,_=>false
end
mutual
theorem sM:∀(v:AV) (x:Value),iF v x=true→(∀κ D,VR κ D v x)∧v.bo=true
 | .bool a,x,h=>by cases x <;> simp [iF] at h;subst h;exact⟨fun _ _=>.bool a,rfl⟩
 | .int k a,x,h=>by cases x <;> simp [iF] at h;obtain⟨rfl,rfl⟩:=h;exact⟨fun _ _=>.int k a,rfl⟩
 | .str bs,x,h=>by cases x <;> simp [iF] at h;exact⟨fun _ _=>.str bs _ h.symm,rfl⟩
 | .sl sz es g,x,h=>by
  simp only[iF] at h
  obtain⟨rfl,rfl,rfl⟩:=DT h
  exact⟨fun _ _=>.nR sz,rfl⟩
 | .iz,x,h=>by
  simp only[iF] at h
  rw[Hr h]
  exact⟨fun _ _=>.iz,rfl⟩
 | .fR,x,h=>by cases x <;> simp [iF] at h;exact⟨fun _ _=>.fR,rfl⟩
 | .dI,x,h=>by
  simp only[iF] at h
  rw[Hs h]
  exact⟨fun _ _=>.dI,rfl⟩
 | .fa,x,h=>by cases x <;> simp [iF] at h;exact⟨fun _ _=>.fa,rfl⟩
 | .agg cs,x,h=>by
  cases x <;> simp [iF] at h
  rename_i xs
  obtain⟨h1,h2⟩:=rk cs xs.toList h
  exact⟨fun κ D=>by simpa using VR.agg cs xs.toList (h1 κ D).1 (h1 κ D).2,by simpa [AV.bo] using h2⟩
 | .cS cs,x,h=>by
  cases cs with
  | nil=>
   cases x <;> simp [iF] at h
   rename_i xs
   subst h
   exact⟨fun κ D=>.cS [] [] rfl (fun j c x hc=>by simp at hc),rfl⟩
  | cons c cs=>cases x <;> simp [iF] at h
 | .dead,x,h=>by cases x <;> simp [iF] at h
 | .ck ..,x,h=>by cases x <;> simp [iF] at h
 | .ref ..,x,h=>by cases x <;> simp [iF] at h
 | .bO ..,x,h=>by cases x <;> simp [iF] at h
 | .fn ..,x,h=>by cases x <;> simp [iF] at h
 | .map ..,x,h=>by cases x <;> simp [iF] at h
 | .iface ..,x,h=>by cases x <;> simp [iF] at h
theorem rk:∀(cs:List AV) (xs:List Value),qR cs xs=true→(∀κ D,dS κ D cs xs)∧AV.ba cs=true
 | [],[],_=>⟨fun κ D=>.nil κ D,rfl⟩
 | [],x :: xs,h=>by simp [qR] at h
 | c :: cs,[],h=>by simp [qR] at h
 | c :: cs,x :: xs,h=>by
  simp only[qR,bD] at h
  obtain⟨h1,h2⟩:=sM c x h.1
  obtain⟨h3,h4⟩:=rk cs xs h.2
  exact⟨fun κ D=>.cons (h1 κ D) (h3 κ D),by simp [AV.ba,h2,h4]⟩
end
def cg:bG→Operand→Bool
 | .t n, .tmp m=>n == m
 | .c v, .const x=>iF v x
 | .c (.fn f []), .func g=>f == g
 | .g n, .global m=>n == m
 | .at n _ _, .tmp m=>n == m
 | _,_=>false
def dj:List bG→List Operand→Bool
 | [],[]=>true
 | x :: xs,y :: ys=>cg x y && dj xs ys
 | _,_=>false
def ft:Option bG→Option Operand→Bool
 | none,none=>true
 | some x,some y=>cg x y
 | _,_=>false
def nV(κ:bR)(G:Nat→AV):Prop:=∀n,VR κ 0 (G n) (.pointer (some ⟨n,0,none⟩))∧(G n).bo=true
theorem nV.mono{κ κ':bR}{G:Nat→AV}(h:nV κ G){D:Nat}(k:jd κ κ' D):nV κ' G:=fun n=>⟨(h n).1.mono (k.low (Nat.zero_le D)),(h n).2⟩
theorem bH{κ:bR}{s:St}{fr:Nat→AV}{a:Act}{G:Nat→AV}(hf:FR κ s fr a)(hG:nV κ G){x:bG}{y:Operand}(h:cg x y=true):VR κ (s.aa+1) ((aM G fr x).av s.aa) (a.eval y):=by
 cases x with
 | t n=>
  cases y <;> simp [cg] at h
  subst h
  exact hf n
 | c v=>
  cases y with
  | const x=>
   have h':iF v x=true:=by cases v <;> simpa [cg] using h
   obtain⟨h1,h2⟩:=sM v x h'
   simp only[aM,lJ h2,Act.eval]
   exact h1 _ _
  | func g=>
   cases v <;> simp [cg] at h
   rename_i f ez
   cases ez with
   | nil=>
    simp [] at h
    subst h
    exact .fn f [] [] rfl (fun j c x hc=>by simp at hc)
   | cons c cs=>simp [] at h
  | tmp m=>cases v <;> simp [cg] at h
  | global m=>cases v <;> simp [cg] at h
 | g n=>
  cases y <;> simp [cg] at h
  subst h
  obtain⟨h1,h2⟩:=hG n
  simp only[aM,lJ h2,Act.eval]
  exact h1.up (Nat.zero_le _)
 | «at» n b off=>
  cases y <;> simp [cg] at h
  subst h
  simp only[aM]
  rcases YL (fr n) (fr b) off with e | ⟨e,_⟩
  ·rw[e];exact .dead _
  ·rw[e];exact hf n
 | Jm b off=>cases y <;> simp [cg] at h
section
variable{κ:bR}{D:Nat}{x:Value}
theorem VR.eD{k:IntKind}{n:Int}(h:VR κ D (.int k n) x):x= .int k n:=by cases h;rfl
theorem VR.iO{b:Bool}(h:VR κ D (.bool b) x):x= .bool b:=by cases h;rfl
theorem VR.jL{bs:List Nat}(h:VR κ D (.str bs) x):∃s,x= .string s∧s.data.toList.map UInt8.toNat=bs:=by cases h;exact⟨_,rfl,by assumption⟩
theorem VR.tS{cs:List AV}(h:VR κ D (.agg cs) x):∃xs:List Value,x= .agg xs.toArray∧dS κ D cs xs:=by cases h;exact⟨_,rfl,by assumption,by assumption⟩
theorem VR.DU{cs:List AV}(h:VR κ D (.cS cs) x):∃xs:List Value,x= .tuple xs.toArray∧dS κ D cs xs:=by cases h;exact⟨_,rfl,by assumption,by assumption⟩
theorem VR.Jt{f:Nat}{cs:List AV}(h:VR κ D (.fn f cs) x):∃xs:List Value,x= .func (.func f) #[] xs.toArray∧dS κ D cs xs:=by cases h;exact⟨_,rfl,by assumption,by assumption⟩
theorem VR.Ay{cs:List AV}(h:VR κ D (.bO cs) x):∃(a:Addr) (aL:Nat→Value),x= .pointer (some a)∧a.spot=none∧(∀j,j < cs.length→κ.F (a.add j)=some (aL j))∧∀(j:Nat) (c:AV),cs[j]? =some c→VR κ D c (aL j):=by
 cases h;exact⟨_,_,rfl,by assumption,by assumption,by assumption⟩
theorem VR.qh{d i off:Nat}(h:VR κ D (.ref (.g d i) off) x):x= .pointer (some ⟨κ.loc d i,off,none⟩)∧d < D∧i < κ.n d:=by cases h;exact⟨rfl,by assumption,by assumption⟩
theorem VR.nq{d i off len cap sz:Nat}(h:VR κ D (.ck (.g d i) off len cap sz) x):∃rc,x= .slice (some ⟨κ.loc d i,off,none⟩) len rc∧d < D∧i < κ.n d∧len≤rc∧(rc=cap∨(cap=0∧0 < len∧off=0∧κ.tk d i len=some (⟨κ.loc d i,0,none⟩,rc,sz))):=by cases h;exact⟨_,rfl,by assumption,by assumption,by assumption,by assumption⟩
theorem VR.agz{d i off len cap sz:Nat}(h:VR κ D (.ck (.g d i) off len cap sz) x)(hl:len≤cap):x= .slice (some ⟨κ.loc d i,off,none⟩) len cap∧d < D∧i < κ.n d:=by
 obtain⟨rc,rfl,h1,h2,h3,h4⟩:=h.nq
 rcases h4 with rfl | ⟨h5,h6,_⟩
 ·exact⟨rfl,h1,h2⟩
 ·omega
theorem VR.TW{t:Nat}{v:AV}(h:VR κ D (.iface t v) x):∃y,x= .iface t y∧VR κ D v y:=by cases h;exact⟨_,rfl,by assumption⟩
end
theorem VR.cells{κ:bR}{D:Nat}{v:AV}{x:Value}(h:VR κ D v x)(hv:v.fF=true):dS κ D v.cells x.cells.toList:=by
 cases h <;> simp [AV.fF] at hv <;> simp only[AV.cells,Value.cells]
 case agg cs xs hl xr=>exact⟨by simpa using hl,by simpa using xr⟩
 all_goals
  refine .cons ?_ (.nil _ _)
  first
   | exact .bool _ | exact .int _ _ | exact .str _ _ (by assumption) | exact .nR _
   | exact .sl _ _ _ _ _ _ (by assumption) (by assumption) (by assumption) (by assumption) (by assumption) (by assumption) (by assumption)
   | exact .ck _ _ _ _ _ _ _ (by assumption) (by assumption) (by assumption) (by assumption) | exact .ref _ _ _ (by assumption) (by assumption)
   | exact .bO _ _ _ (by assumption) (by assumption) (by assumption) | exact .iz | exact .fn _ _ _ (by assumption) (by assumption)
   | exact .fR | exact .dI | exact .map _ _ (by assumption) (by assumption) | exact .iface _ _ _ (by assumption) | exact .fa
theorem DV(v:AV)(d:Nat):(v.av d).fF=v.fF:=by cases v <;> rfl
theorem VR.aif{κ:bR}{D:Nat}{v:AV}{x:Value}(h:VR κ D v x)(hv:v.dU=true):x.oneCell'=true:=by
 cases h <;> simp [AV.dU] at hv <;> rfl
theorem bytes_inj{a b:List UInt8}(h:a.map UInt8.toNat=b.map UInt8.toNat):a=b:=by
 have:=List.map_inj_right (f:=UInt8.toNat) (l:=a) (l':=b) (fun x y TX=>UInt8.toNat_inj.1 TX)
 exact this.1 h
theorem Ju(a b:List UInt8):(a.map UInt8.toNat == b.map UInt8.toNat)=(a == b):=by
 rw[Bool.eq_iff_iff]
 simp only[beq_iff_eq]
 exact⟨bytes_inj,fun h=>by rw[h]⟩
theorem tT:∀(a b:List UInt8),md (a.map UInt8.toNat) (b.map UInt8.toNat)=Op.bytesLess a b
 | _,[]=>by simp [md,Op.bytesLess]
 | [],_ :: _=>by simp [md,Op.bytesLess]
 | a :: x,b :: y=>by
  simp only[List.map_cons,md,Op.bytesLess,tT x y]
  have h1:Nat.blt a.toNat b.toNat=decide (a < b):=by
   rw[Bool.eq_iff_iff];simp [Nat.blt_eq,UInt8.lt_iff_toNat_lt]
  have h2:Nat.beq a.toNat b.toNat=(a == b):=by
   rw[Bool.eq_iff_iff];simp [Nat.beq_eq,UInt8.toNat_inj]
  rw[h1,h2]
def cW(P:Program)(o:Op)(ty:TypeId)(ρ:Operand→Value)(κ:bR)(s:St)(w:World)(v:AV)(s':St):Prop:=
 ∃x κ' w',((∀dst pos after guard,(execOp ρ ⟨dst,o,ty,pos,after,guard⟩).run P w= .ok (.value x) w')∨((∀dst pos after guard,(execOp ρ ⟨dst,o,ty,pos,after,guard⟩).run P w= .ok .skip w')∧x=undef))∧
  iA κ s w κ' s' w'∧dk κ' s' w'∧VR κ' (s.aa+1) (v.av s.aa) x
theorem bA{P:Program}{o:Op}{ty:TypeId}{ρ:Operand→Value}{κ:bR}{s:St}{w:World}{v:AV}(hs:dk κ s w)(x:Value)
  (h:∀dst pos after guard,(execOp ρ ⟨dst,o,ty,pos,after,guard⟩).run P w= .ok (.value x) w)(hx:VR κ (s.aa+1) (v.av s.aa) x):cW P o ty ρ κ s w v s:=
 ⟨x,κ,w, .inl h, .refl _ _ _,hs,hx⟩
section
variable{P:Program}{ty:TypeId}{ρ:Operand→Value}{κ:bR}{s:St}{w:World}(hs:dk κ s w)
include hs
theorem Me{v:AV}{x:Operand}(h:VR κ (s.aa+1) (v.av s.aa) (ρ x)):cW P (.move x) ty ρ κ s w v s:=
 bA hs _ (fun _ _ _ _=>by simp [execOp]) h
theorem Ht{v:AV}{x:Operand}(h:VR κ (s.aa+1) (v.av s.aa) (ρ x)):cW P (.assign x) ty ρ κ s w v s:=
 bA hs _ (fun _ _ _ _=>by simp [execOp]) h
theorem Mf{t:Bool}{a b:AV}{c x y:Operand}(hc:ρ c= .bool t)(h1:VR κ (s.aa+1) (a.av s.aa) (ρ x))(h2:VR κ (s.aa+1) (b.av s.aa) (ρ y)):
  cW P (.pick c x y) ty ρ κ s w (bif t then a else b) s:=by
 refine bA hs (if t then ρ x else ρ y) (fun _ _ _ _=>by simp [execOp,hc,asBool]) ?_
 cases t <;> assumption
theorem DW{op:BinOp}{k:IntKind}{m n:Int}{t yt:TypeId}{x y:Operand}{v:AV}(hx:ρ x= .int k m)(hy:ρ y= .int k n)(h:gV op k m n=some v):cW P (.binOp op t x y yt) ty ρ κ s w v s:=by
 have key:∃z,(binOp op t (.int k m) (.int k n)).run P w= .ok z w∧VR κ (s.aa+1) (v.av s.aa) z:=by
  cases op <;> simp only[gV,bM,reduceCtorEq] at h
  case quo=>
   by_cases hn:n=0
   ·simp [hn] at h
   ·simp only[hn,↓reduceIte,bM] at h;subst h;exact⟨_,by simp only[binOp,Op.intDiv,hn,ne_eq,not_true_eq_false,↓reduceIte];rfl, .int k _⟩
  case rem=>
   by_cases hn:n=0
   ·simp [hn] at h
   ·simp only[hn,↓reduceIte,bM] at h;subst h;exact⟨_,by simp only[binOp,Op.intDiv,hn,ne_eq,not_true_eq_false,↓reduceIte];rfl, .int k _⟩
  case add=>subst h;exact⟨_,by simp only[binOp,Op.intArith,ne_eq,not_true_eq_false,↓reduceIte];rfl, .int k _⟩
  case sub=>subst h;exact⟨_,by simp only[binOp,Op.intArith,ne_eq,not_true_eq_false,↓reduceIte];rfl, .int k _⟩
  case mul=>subst h;exact⟨_,by simp only[binOp,Op.intArith,ne_eq,not_true_eq_false,↓reduceIte];rfl, .int k _⟩
  case and=>subst h;exact⟨_,by simp only[binOp,Op.intBits,ne_eq,not_true_eq_false,↓reduceIte];rfl, .int k _⟩
  case or=>subst h;exact⟨_,by simp only[binOp,Op.intBits,ne_eq,not_true_eq_false,↓reduceIte];rfl, .int k _⟩
  case xor=>subst h;exact⟨_,by simp only[binOp,Op.intBits,ne_eq,not_true_eq_false,↓reduceIte];rfl, .int k _⟩
  case andNot=>subst h;exact⟨_,by simp only[binOp,Op.intBits,ne_eq,not_true_eq_false,↓reduceIte];rfl, .int k _⟩
  all_goals (subst h;exact⟨_,by simp only[binOp,Op.intCmp,ne_eq,not_true_eq_false,↓reduceIte];rfl, .bool _⟩)
 obtain⟨z,hz,hv⟩:=key
 refine bA hs z (fun _ _ _ _=>?_) hv
 have hg:(eqGuard op t x y (.int k m) (.int k n)).run P w= .ok () w:=by
  unfold eqGuard
  split <;> rfl
 simp [execOp,hx,hy,hg,hz]
theorem xt{op:BinOp}{k k':IntKind}{m n:Int}{t yt:TypeId}{x y:Operand}{v:AV}(hx:ρ x= .int k m)(hy:ρ y= .int k' n)(ho:op= .shl∨op= .shr)(h:qP op k m n=some v):cW P (.binOp op t x y yt) ty ρ κ s w v s:=by
 unfold qP at h
 split at h
 ·cases h
 ·rename_i hn
  rcases ho with rfl | rfl <;> simp only[bM] at h <;> subst h <;> exact bA hs _ (fun _ _ _ _=>by simp only[execOp,hx,hy,eqGuard,binOp,Op.shift,hn];rfl) (.int k _)
theorem Hu{k:IntKind}{n:Int}{t:TypeId}{x:Operand}(hx:ρ x= .int k n):cW P (.unOp .neg t x) ty ρ κ s w (.int k (k.wrap (0 - n))) s:=
 bA hs _ (fun _ _ _ _=>by simp only[execOp,hx,Op.unary,Op.intArith];rfl) (.int k _)
theorem Hv{k:IntKind}{n:Int}{t:TypeId}{x:Operand}(hx:ρ x= .int k n):cW P (.unOp .xor t x) ty ρ κ s w (.int k (k.wrap (BitVec.ofInt k.bits (if k.signed then -1 else k.max) ^^^ BitVec.ofInt k.bits n).toNat)) s:=
 bA hs _ (fun _ _ _ _=>by simp only[execOp,hx,Op.unary,Op.intBits];rfl) (.int k _)
theorem Hw{b:Bool}{t:TypeId}{x:Operand}(hx:ρ x= .bool b):cW P (.unOp .not t x) ty ρ κ s w (.bool (!b)) s:=
 bA hs _ (fun _ _ _ _=>by simp [execOp,hx,Op.unary]) (.bool _)
theorem DX{op:BinOp}{as bs:List Nat}{t yt:TypeId}{x y:Operand}{v:AV}(hx:VR κ (s.aa+1) (.str as) (ρ x))(hy:VR κ (s.aa+1) (.str bs) (ρ y))(h:xa op as bs=some v):cW P (.binOp op t x y yt) ty ρ κ s w v s:=by
 obtain⟨a,hx,ha⟩:=hx.jL
 obtain⟨b,hy,hb⟩:=hy.jL
 have hea:(a.toList == b.toList)=(as == bs):=by rw[Go.ByteArray.toList_eq,Go.ByteArray.toList_eq,←ha,←hb,Ju]
 have hla:Op.bytesLess a.toList b.toList=md as bs:=by rw[Go.ByteArray.toList_eq,Go.ByteArray.toList_eq,←ha,←hb,tT]
 have key:∃z,(binOp op t (.string a) (.string b)).run P w= .ok z w∧VR κ (s.aa+1) (v.av s.aa) z:=by
  cases op <;> simp only[xa,bM,reduceCtorEq] at h
  case add=>
   split at h
   ·rename_i hle
    simp only[bM] at h
    subst h
    have hl:=dL hle
    have hsa:a.size=as.length:=by have:=congrArg List.length ha;rw[cw,Array.length_toList] at this;exact this
    have xu:b.size=bs.length:=by have:=congrArg List.length hb;rw[cw,Array.length_toList] at this;exact this
    refine⟨.string (a ++ b),?_, .str _ _ ?_⟩
    ·have:¬(((a.size+b.size:Nat):Int) > IntKind.i64.max):=by rw[hsa,xu];show¬_ > (9223372036854775807:Int);omega
     simp only[binOp,Op.stringOp,this,↓reduceIte]
     rfl
    ·rw[←ha,←hb,←List.map_append]
     simp
   ·cases h
  all_goals (subst h;refine⟨_,by simp only[binOp,Op.stringOp,hea,hla];rfl,?_⟩;exact .bool _)
 obtain⟨z,hz,hv⟩:=key
 refine bA hs z (fun _ _ _ _=>?_) hv
 have hg:(eqGuard op t x y (.string a) (.string b)).run P w= .ok () w:=by
  unfold eqGuard
  split <;> rfl
 simp [execOp,hx,hy,hg,hz]
theorem DY{k k':IntKind}{n:Int}{src dst:TypeId}{x:Operand}{d:TypeDesc}(kX:P.underlying src=some d)(pa:P.underlying dst=some (.int k))(hx:ρ x= .int k' n):cW P (.convert src dst x) ty ρ κ s w (.int k (k.wrap n)) s:=
 bA hs _ (fun _ _ _ _=>by simp [execOp,convert,run_underlying kX,run_underlying pa,hx,Conv.intToInt]) (.int k _)
theorem Hx{bs:List Nat}{src dst:TypeId}{x:Operand}{d:TypeDesc}(kX:P.underlying src=some d)(pa:P.underlying dst=some .string)(hx:VR κ (s.aa+1) (.str bs) (ρ x)):cW P (.convert src dst x) ty ρ κ s w (.str bs) s:=by
 obtain⟨a,nW,ha⟩:=hx.jL
 exact bA hs _ (fun _ _ _ _=>by simp [execOp,convert,run_underlying kX,run_underlying pa,nW]) (.str _ _ ha)
theorem DZ{v:AV}{t:TypeId}{x:Operand}{d:TypeDesc}(ht:P.underlying t=some d)(hd:(d matches .interface _)=false)(hx:VR κ (s.aa+1) (v.av s.aa) (ρ x)):cW P (.makeInterface t x) ty ρ κ s w (.iface t (v.av s.aa)) s:=
 bA hs (.iface t (ρ x)) (fun _ _ _ _=>by
  simp only[execOp,Instr.makeInterface,Sem.run_bind,run_underlying ht,Result.andThen_ok]
  cases d <;> simp at hd ⊢) (.iface t _ _ hx)
theorem D0{vs:List AV}{i:Nat}{x:Operand}{v:AV}(hx:VR κ (s.aa+1) (.cS vs) (ρ x))(hv:vs[i]? =some v)(hp:v.av s.aa=v):cW P (.extract x i) ty ρ κ s w v s:=by
 obtain⟨xs,nW,hl,h⟩:=hx.DU
 have hi:=(bZ.1 hv).1
 have hxi:xs[i]? =some xs[i]:=d8 (by omega)
 exact bA hs xs[i] (fun _ _ _ _=>by simp [execOp,Instr.extract,nW,hxi]) (by rw[hp];exact h i v _ hv hxi)
end
def YQ:TypeDesc→Bool
 | .struct _ | .array _ _=>true
 | _=>false
def qi(P:Program)(t:TypeId):Option Bool:=(P.underlying t).map YQ
def fL(P:Program)(t:TypeId):Option Nat:=(P.info? t).map (·.size)
theorem mX{P:Program}{t:TypeId}{b:Bool}(h:qi P t=some b)(w:World):(isAgg t).run P w= .ok b w:=by
 unfold qi at h
 cases hd:P.underlying t with
 | none=>simp [hd] at h
 | some d=>
  simp only[hd,e9,bM] at h
  subst h
  simp only[isAgg,Sem.run_bind,run_underlying hd,Result.andThen_ok]
  cases d <;> rfl
theorem ef{P:Program}{t:TypeId}{n:Nat}(h:fL P t=some n)(w:World):(sizeOf t).run P w= .ok n w:=by
 unfold fL at h
 cases hd:P.info? t with
 | none=>simp [hd] at h
 | some i=>
  simp only[hd,e9,bM] at h
  subst h
  simp [sizeOf,typeInfo,hd]
section
variable{P:Program}{ty:TypeId}{ρ:Operand→Value}{κ:bR}{s:St}{w:World}(hs:dk κ s w)
include hs
def Reads(κ:bR)(D:Nat)(w:World)(a:Addr)(cs:List AV):Prop:=∃aL:Nat→Value,(∀j,j < cs.length→w.cell? (a.add j)=some (aL j))∧∀(j:Nat) (c:AV),cs[j]? =some c→VR κ D c (aL j)
omit hs in
theorem Reads.drop{D:Nat}{a:Addr}{cs:List AV}(h:Reads κ D w a cs)(n:Nat):Reads κ D w (a.add n) (cs.drop n):=by
 obtain⟨aL,h1,h2⟩:=h
 refine⟨fun j=>aL (n+j),fun j hj=>?_,fun j c hc=>h2 _ c (by simpa using hc)⟩
 rw[add_add]
 exact h1 _ (by simp at hj;omega)
theorem Mg{D:Nat}{cs:List AV}{x:Value}(h:VR κ D (.bO cs) x):∃a,x= .pointer (some a)∧a.spot=none∧Reads κ D w a cs:=by
 obtain⟨a,aL,rfl,h1,h2,h3⟩:=h.Ay
 exact⟨a,rfl,h1,aL,fun j hj=>(hs.kU _ _ (h2 j hj)).2,h3⟩
theorem sO{d i:Nat}{cs:List AV}(h:s.get (.g d i)=some (.cells cs))(off:Nat):Reads κ (d+1) w ⟨κ.loc d i,off,none⟩ (cs.drop off):=by
 obtain⟨⟨C,e,fz,h1,h2,h3,_⟩,h4⟩:=hs.obj d i _ h
 have hl:cs.length≤C.size:=by have:=h3.1;simp at this;omega
 refine⟨fun j=>C.getD (off+j) undef,fun j hj=>?_,fun j c hc=>?_⟩
 ·rw[f7 rfl,fS h1]
  simp at hj
  simp [Array.getD,show off+j < C.size by omega]
 ·obtain⟨x,hx,hv⟩:=h3.get (show cs[off+j]? =some c by simpa using hc)
  have cM:off+j < cs.length:=(bZ.1 (show cs[off+j]? =some c by simpa using hc)).1
  have:C.getD (off+j) undef=x:=by
   rw[List.getElem?_take,if_pos cM] at hx
   have nW:C[off+j]? =some x:=by simpa using hx
   simp [Array.getD_eq_getD_getElem?,nW]
  simpa [this] using hv
omit hs in
theorem Az{D D':Nat}{a:Addr}{cs:List AV}(h:Reads κ D w a cs)(hD:D≤D'):Reads κ D' w a cs:=by
 obtain⟨v,h1,h2⟩:=h
 exact⟨v,h1,fun j c hc=>(h2 j c hc).up hD⟩
omit hs in
theorem Bs{D:Nat}{a:Addr}{cs:List AV}(h:Reads κ D w a cs){n:Nat}(hn:n≤cs.length):∃xs:List Value,(loadCells a n).run P w= .ok xs.toArray w∧dS κ D (cs.take n) xs:=by
 obtain⟨aL,h1,h2⟩:=h
 refine⟨(List.range n).map aL,run_loadCells w a n aL (fun j hj=>h1 j (by omega)),by simp;omega,fun j c x hc hx=>?_⟩
 simp only[List.getElem?_map] at hx
 rw[List.getElem?_take] at hc
 by_cases hj:j < n
 ·simp only[hj,↓reduceIte] at hc
  have nW:(List.range n)[j]? =some j:=by simp [hj]
  rw[nW] at hx
  simp only[e9,bM] at hx
  exact hx ▸ h2 j c hc
 ·simp [hj] at hc
omit hs in
theorem AA{D:Nat}{a:Addr}{cs:List AV}(h:Reads κ D w a cs){n:Nat}(hn:n≤cs.length){t:TypeId}(h1:qi P t=some true)(h2:fL P t=some n):∃x,(loadVar t a).run P w= .ok x w∧VR κ D (.agg (cs.take n)) x:=by
 obtain⟨xs,e,hv⟩:=Bs (P:=P) h hn
 refine⟨.agg xs.toArray,by simp [loadVar,mX h1,ef h2,e], .agg _ xs hv.1 hv.2⟩
omit hs in
theorem AB{D:Nat}{a:Addr}{c:AV}{cs:List AV}(h:Reads κ D w a (c :: cs)){t:TypeId}(h1:qi P t=some false):∃x,(loadVar t a).run P w= .ok x w∧VR κ D c x:=by
 obtain⟨aL,e,hv⟩:=h
 have e0:=e 0 (by simp)
 simp only[Addr.add,↓reduceIte] at e0
 exact⟨aL 0,by simp [loadVar,mX h1,e0],hv 0 c rfl⟩
def mD(P:Program)(t:TypeId):Option Nat→Bool
 | none=>qi P t == some false
 | some n=>qi P t == some true && fL P t == some n
omit hs in
theorem AC{D:Nat}{a:Addr}{cs:List AV}(h:Reads κ D w a cs){n:Option Nat}{t:TypeId}(hn:mD P t n=true){E:Env}(hE:E.F= .not){k:AV→St→ax}{r:ax}(hr:fm E s k n cs=r)(hf:r≠.fail):
  ∃v x,k v s=r∧(loadVar t a).run P w= .ok x w∧VR κ D v x:=by
 cases n with
 | none=>
  cases cs with
  | nil=>simp [fm] at hr;exact absurd hr.symm hf
  | cons c cs=>
   simp only[fm,hE,a6.not] at hr
   obtain⟨x,hx,hv⟩:=AB (P:=P) h (by simpa [mD] using hn)
   exact⟨c,x,hr,hx,hv⟩
 | some n=>
  simp only[mD,bD,beq_iff_eq] at hn
  simp only[fm,hE,a6.not] at hr
  by_cases hl:n≤cs.length
  ·rw[dy hl,cond_true] at hr
   obtain⟨x,hx,hv⟩:=AA (P:=P) h hl hn.1 hn.2
   exact⟨_,x,hr,hx,hv⟩
  ·have:Nat.ble n cs.length=false:=by
    cases hb:Nat.ble n cs.length with
    | false=>rfl
    | true=>exact absurd (dL hb) hl
   rw[this,cond_false] at hr
   exact absurd hr.symm hf
omit hs in
theorem kg.av{D sz n cap:Nat}{g:Gr}{a:Addr}(h:kg κ D sz g n a cap)(d:Nat):g.av d=g:=by
 cases g with
 | bJ a=>cases a with
  | l i=>simp [kg] at h
  | g d i=>rfl
 | _=>rfl
omit hs in
theorem C1{D:Nat}{v:AV}{x:Value}(h:VR κ D v x)(d:Nat):v.av d=v:=by
 cases h <;> try rfl
 simp only[AV.av]
 rw[kg.av (by assumption)]
theorem Mh{E:Env}(hE:E.F= .not){k:AV→St→ax}{r:ax}(hf:r≠.fail){n:Option Nat}{t:TypeId}{x:Operand}{v:AV}(hn:mD P t n=true)(hx:VR κ (s.aa+1) (v.av s.aa) (ρ x))
  (hr:fK E s k n v=r):∃v',k v' s=r∧cW P (.load t x) ty ρ κ s w v' s:=by
 cases v <;> simp only[AV.av] at hx <;> simp only[fK] at hr <;> try exact absurd hr.symm hf
 case bO cs=>
  obtain⟨a,e,_,AD⟩:=Mg hs hx
  obtain⟨v',y,h1,h2,h3⟩:=AC AD hn hE hr hf
  exact⟨v',h1,bA hs y (fun _ _ _ _=>by simp [execOp,Instr.loadAt,e,Instr.sureAddr,h2]) (by rw[C1 h3];exact h3)⟩
 case ref a off=>
  rw[←St.jn] at hr
  cases ha:a.av s.aa with
  | l i=>cases a <;> simp [Loc.av] at ha
  | g d i=>
   rw[ha] at hr hx
   obtain⟨e,hd,_⟩:=hx.qh
   cases hg:s.get (.g d i) with
   | none=>rw[hg] at hr;exact absurd hr.symm hf
   | some o=>
    rw[hg] at hr
    cases o <;> try exact absurd hr.symm hf
    rename_i cs
    have AD:=Az (sO hs hg off) (show d+1≤s.aa+1 by omega)
    obtain⟨v',y,h1,h2,h3⟩:=AC AD hn hE hr hf
    exact⟨v',h1,bA hs y (fun _ _ _ _=>by simp [execOp,Instr.loadAt,e,Instr.sureAddr,h2]) (by rw[C1 h3];exact h3)⟩
end
theorem kY{v:AV}{n:Nat}(h:eE v=some n):∃k,v= .int k n:=by
 cases v <;> simp [eE] at h
 rename_i k m
 exact⟨k,by rw[←h.2,Int.toNat_of_nonneg h.1]⟩
theorem TY{n m:Nat}{r:ax}{x:ax}(h:(bif Nat.ble n m then x else .fail)=r)(hf:r≠.fail):n≤m∧x=r:=by
 cases hb:Nat.ble n m with
 | true=>rw[hb] at h;exact⟨dL hb,h⟩
 | false=>rw[hb] at h;exact absurd h.symm hf
theorem cB{b:Bool}{r:ax}{x:ax}(h:(bif b then x else .fail)=r)(hf:r≠.fail):b=true∧x=r:=by
 cases b with
 | true=>exact⟨rfl,h⟩
 | false=>exact absurd h.symm hf
section
variable{P:Program}{ty:TypeId}{ρ:Operand→Value}{κ:bR}{s:St}{w:World}(hs:dk κ s w)
include hs
theorem AE{E:Env}(hE:E.F= .not){k:AV→St→ax}{r:ax}(hf:r≠.fail){t:TypeId}{x:Operand}{v:AV}{i off:Nat}{fs:Array Field}{f:Field}(ht:P.underlying t=some (.struct fs))(TZ:fs[i]? =some f)(ho:f.offset=off)
  {n:Nat}(hz:fL P f.type=some n)(hn:n≠0)(hx:VR κ (s.aa+1) (v.av s.aa) (ρ x))(hr:jj E s k off v=r):∃v',k v' s=r∧cW P (.fieldAddr t x i) ty ρ κ s w v' s:=by
 have run:∀(a:Addr),ρ x= .pointer (some a)→∀dst pos after guard,(execOp ρ ⟨dst, .fieldAddr t x i,ty,pos,after,guard⟩).run P w= .ok (.value (.pointer (some (a.add off)))) w:=by
  intro a ha dst pos after guard
  simp [execOp,Instr.fieldAt,run_underlying ht,TZ,ha,Instr.sureAddr,fieldPlace,ef hz,hn,ho]
 cases v <;> simp only[AV.av] at hx <;> simp only[jj,hE,a6.not] at hr <;> try exact absurd hr.symm hf
 case bO cs=>
  obtain⟨a,aL,e,h1,h2,h3⟩:=hx.Ay
  refine⟨_,hr,bA hs _ (run a e) ?_⟩
  refine .bO _ _ (fun j=>aL (off+j)) (qc h1 _) (fun j hj=>?_) (fun j c hc=>h3 _ c (by simpa using hc))
  rw[add_add]
  exact h2 _ (by simp at hj;omega)
 case ref a o=>
  refine⟨_,hr,?_⟩
  cases ha:a.av s.aa with
  | l i=>cases a <;> simp [Loc.av] at ha
  | g d j=>
   rw[ha] at hx
   obtain⟨e,hd,hj⟩:=hx.qh
   refine bA hs _ (run _ e) ?_
   simp only[AV.av,ha,f7 (show(⟨κ.loc d j,o,none⟩:Addr).spot=none from rfl)]
   exact .ref d j _ hd hj
omit hs in
theorem Iy{cs:List AV}{xs:List Value}{D off:Nat}(h:dS κ D cs xs){t:TypeId}{n:Option Nat}(hn:mD P t n=true){E:Env}(hE:E.F= .not){k:AV→St→ax}{r:ax}(hr:fm E s k n (cs.drop off)=r)(hf:r≠.fail):
  ∃v x,k v s=r∧(part t xs.toArray off).run P w= .ok x w∧VR κ D v x:=by
 have hd:=h.drop off
 cases n with
 | none=>
  cases hc:cs.drop off with
  | nil=>rw[hc] at hr;simp [fm] at hr;exact absurd hr.symm hf
  | cons c nX=>
   rw[hc] at hr
   simp only[fm,hE,a6.not] at hr
   rw[hc] at hd
   obtain⟨x,ys,gY,hv,_⟩:=hd.CY
   refine⟨c,x,hr,?_,hv⟩
   have rN:xs[off]? =some x:=by
    have:=congrArg (fun l:List Value=>l[0]?) gY
    simpa using this
   simp [part,mX (show qi P t=some false by simpa [mD] using hn),rN]
 | some n=>
  simp only[mD,bD,beq_iff_eq] at hn
  simp only[fm,hE,a6.not] at hr
  obtain⟨hl,hk⟩:=TY hr hf
  refine⟨_, .agg ((xs.drop off).take n).toArray,hk,?_, .agg _ _ (hd.take n).1 (hd.take n).2⟩
  have:xs.toArray.extract off (off+n)=((xs.drop off).take n).toArray:=by
   rw[List.extract_toArray]
   congr 1
   simp [List.extract_eq_take_drop]
  simp [part,mX hn.1,ef hn.2]
theorem Jv{E:Env}(hE:E.F= .not){k:AV→St→ax}{r:ax}(hf:r≠.fail){t:TypeId}{x:Operand}{v:AV}{i off:Nat}{n:Option Nat}{fs:Array Field}{f:Field}(ht:P.underlying t=some (.struct fs))(TZ:fs[i]? =some f)(ho:f.offset=off)
  (hn:mD P f.type n=true)(hx:VR κ (s.aa+1) (v.av s.aa) (ρ x))(hr:pd E s k off n v=r):∃v',k v' s=r∧cW P (.field t x i) ty ρ κ s w v' s:=by
 cases v <;> simp only[AV.av] at hx <;> simp only[pd] at hr <;> try exact absurd hr.symm hf
 obtain⟨xs,e,h⟩:=hx.tS
 obtain⟨v',y,h1,h2,h3⟩:=Iy (w:=w) h hn hE hr hf
 exact⟨v',h1,bA hs y (fun _ _ _ _=>by simp [execOp,Instr.field,run_underlying ht,TZ,e,asAgg,ho,h2]) (by rw[C1 h3];exact h3)⟩
theorem Hy{E:Env}(hE:E.F= .not){k:AV→St→ax}{r:ax}(hf:r≠.fail){t e:TypeId}{x y:Operand}{v i:AV}{sz len:Nat}{n:Option Nat}(ht:P.underlying t=some (.array len e))(hz:fL P e=some sz)
  (hn:mD P e n=true)(hx:VR κ (s.aa+1) (v.av s.aa) (ρ x))(hi:VR κ (s.aa+1) (i.av s.aa) (ρ y))(hr:nh E s k sz len n v i=r):∃v',k v' s=r∧cW P (.index t x y) ty ρ κ s w v' s:=by
 cases v <;> simp only[AV.av] at hx <;> simp only[nh] at hr <;> try exact absurd hr.symm hf
 rename_i cs
 obtain⟨xs,ex,h⟩:=hx.tS
 cases rn:eE i with
 | none=>rw[rn] at hr;exact absurd hr.symm hf
 | some m=>
  rw[rn] at hr
  obtain⟨kk,rfl⟩:=kY rn
  have ei:=hi.eD
  obtain⟨hb,hr⟩:=cB hr hf
  have hm:m < len:=by simpa [Nat.blt_eq] using hb
  obtain⟨v',z,h1,h2,h3⟩:=Iy (w:=w) h hn hE hr hf
  refine⟨v',h1,bA hs z (fun _ _ _ _=>?_) (by rw[C1 h3];exact h3)⟩
  simp [execOp,Instr.index,run_underlying ht,ex,ei,asIntOf,hm,ef hz,h2]
theorem Hz{E:Env}(hE:E.F= .not){k:AV→St→ax}{r:ax}(hf:r≠.fail){t:TypeId}{x y:Operand}{v i:AV}(ht:P.underlying t=some .string)
  (hx:VR κ (s.aa+1) (v.av s.aa) (ρ x))(hi:VR κ (s.aa+1) (i.av s.aa) (ρ y))(hr:kR E s k v i=r):∃v',k v' s=r∧cW P (.index t x y) ty ρ κ s w v' s:=by
 cases v <;> simp only[AV.av] at hx <;> simp only[kR] at hr <;> try exact absurd hr.symm hf
 rename_i bs
 obtain⟨a,ex,h⟩:=hx.jL
 cases rn:eE i with
 | none=>rw[rn] at hr;exact absurd hr.symm hf
 | some m=>
  rw[rn] at hr
  obtain⟨kk,rfl⟩:=kY rn
  have ei:=hi.eD
  cases hb:bs[m]? with
  | none=>simp only[hb] at hr;exact absurd hr.symm hf
  | some b=>
   simp only[hb,hE,a6.not] at hr
   refine⟨_,hr,bA hs (.int .u8 b) (fun _ _ _ _=>?_) (.int _ _)⟩
   rw[←h,List.getElem?_map] at hb
   cases hc:a.data.toList[m]? with
   | none=>simp [hc] at hb
   | some c=>
    simp only[hc,e9,bM] at hb
    subst hb
    have cM:=(bZ.1 hc).1
    have hgm:a[m]? =some c:=by
     have dM:m < a.size:=by rw[Array.length_toList] at cM;exact cM
     rw[getElem?_pos a m dM]
     have h2:=(bZ.1 hc).2
     rw[ByteArray.getElem_eq_getElem_data]
     simpa using h2
    have key:(Instr.index t (.string a) (.int kk m)).run P w= .ok (.int .u8 c.toNat) w:=by
     simp only[Instr.index,Sem.run_bind,asIntOf,Sem.run_pure,Result.andThen_ok,run_underlying ht,Int.natCast_nonneg,↓reduceIte,Int.toNat_natCast,hgm]
    simp only[execOp,ex,ei,Sem.run_bind,key,Result.andThen_ok,Sem.run_pure]
omit hs in
theorem jF{D:Nat}{v:AV}{x:Value}(h:VR κ D v x):(∀sz es g,v= .sl sz es g→∃a c,x= .slice a es.length c)∧∀a off len cap sz,v= .ck a off len cap sz→∃p c,x= .slice p len c:=by
 cases h <;> refine⟨fun sz es g e=>?_,fun a off len cap sz e=>?_⟩ <;> cases e <;> exact⟨_,_,rfl⟩
theorem D1{E:Env}(hE:E.F= .not){k:AV→St→ax}{r:ax}(hf:r≠.fail){b:Bool}{t:TypeId}{d:TypeDesc}{x:Operand}{v:AV}(ht:P.underlying t=some d)(hd:(b=true∧d= .string)∨(b=false∧∃e,d= .slice e))
  (hx:VR κ (s.aa+1) (v.av s.aa) (ρ x))(hr:xc E s k b v=r):∃v',k v' s=r∧cW P (.call {callee:=.builtin .len,args:= #[x],argTypes:= #[t]}) ty ρ κ s w v' s:=by
 have nr:=jF hx
 cases v <;> simp only[AV.av] at hx nr <;> rcases hd with⟨rfl,rfl⟩ | ⟨rfl,e,rfl⟩ <;> simp only[xc,hE,a6.not] at hr <;> try exact absurd hr.symm hf
 case str.inl bs=>
  obtain⟨a,ex,h⟩:=hx.jL
  refine⟨_,hr,bA hs (.int .i64 bs.length) (fun _ _ _ _=>?_) (.int _ _)⟩
  have:a.size=bs.length:=by have:=congrArg List.length h;rw[cw,Array.length_toList] at this;exact this
  simp [execOp,resolve,invoke,builtin,Builtin.len_,run_underlying ht,ex,goInt,this]
 case sl.inr sz es g=>
  refine⟨_,hr,bA hs (.int .i64 es.length) (fun _ _ _ _=>?_) (.int _ _)⟩
  obtain⟨a,c,ex⟩:=nr.1 _ _ _ rfl
  simp [execOp,resolve,invoke,builtin,Builtin.len_,run_underlying ht,ex,goInt]
 case ck.inr a off len cap sz=>
  refine⟨_,hr,bA hs (.int .i64 len) (fun _ _ _ _=>?_) (.int _ _)⟩
  obtain⟨p,rc,ex⟩:=nr.2 _ _ _ _ _ rfl
  simp [execOp,resolve,invoke,builtin,Builtin.len_,run_underlying ht,ex,goInt]
end
theorem rO:∀(es:List AV) (sz i:Nat) (e:AV),(∀e,e∈es→e.cells.length=sz)→es[i]? =some e→∀j,j < sz→(es.flatMap AV.cells)[i * sz+j]? =e.cells[j]?
 | [],_,_,_,_,h,_,_=>by simp at h
 | x :: es,sz,i,e,hl,h,j,hj=>by
  have hx:=hl x (by simp)
  simp only[List.flatMap_cons]
  cases i with
  | zero=>
   simp at h
   subst h
   rw[eZ (by omega)]
   simp
  | succ i=>
   rw[List.getElem?_append_right (by rw[hx,Nat.succ_mul];omega),hx,show(i+1) * sz+j - sz=i * sz+j by rw[Nat.succ_mul];omega]
   exact rO es sz i e (fun e he=>hl e (by simp [he])) (by simpa using h) j hj
theorem eU:∀(es:List AV) (sz:Nat),(∀e,e∈es→e.cells.length=sz)→(es.flatMap AV.cells).length=es.length * sz
 | [],sz,_=>by simp
 | x :: es,sz,hl=>by
  simp only[List.flatMap_cons,dp,cP,hl x (by simp),eU es sz (fun e he=>hl e (by simp [he])),Nat.succ_mul]
  omega
theorem VR.jF{κ:bR}{D sz:Nat}{es:List AV}{g:Gr}{x:Value}(h:VR κ D (.sl sz es g) x):(es=[]∧g= .nil∧x= .slice none 0 0)∨
  ∃(a:Addr) (cap:Nat) (aL:Nat→Value),x= .slice (some a) es.length cap∧kg κ D sz g es.length a cap∧es.length≤cap∧(es≠[]→a.spot=none)∧(∀e,e∈es→e.cells.length=sz)∧DJ g es∧
   (∀j,j < (es.flatMap AV.cells).length→κ.F (a.add j)=some (aL j))∧∀(j:Nat) (c:AV),(es.flatMap AV.cells)[j]? =some c→VR κ D c (aL j):=by
 cases h with
 | nR=>exact .inl ⟨rfl,rfl,rfl⟩
 | sl=>exact .inr ⟨_,_,_,rfl,by assumption,by assumption,by assumption,by assumption,by assumption,by assumption,by assumption⟩
section
variable{P:Program}{ty:TypeId}{ρ:Operand→Value}{κ:bR}{s:St}{w:World}(hs:dk κ s w)
include hs
theorem Jw{E:Env}(hE:E.F= .not){k:AV→St→ax}{r:ax}(hf:r≠.fail){t e:TypeId}{x y:Operand}{v i:AV}{sz:Nat}(ht:P.underlying t=some (.slice e))(hz:fL P e=some sz)
  (hx:VR κ (s.aa+1) (v.av s.aa) (ρ x))(hi:VR κ (s.aa+1) (i.av s.aa) (ρ y))(hr:p0 E s k sz v i=r):∃v',k v' s=r∧cW P (.indexAddr t x y) ty ρ κ s w v' s:=by
 unfold p0 at hr
 cases rn:eE i with
 | none=>rw[rn] at hr;exact absurd hr.symm hf
 | some m=>
  rw[rn] at hr
  obtain⟨kk,rfl⟩:=kY rn
  have ei:=hi.eD
  have run:∀(a:Addr) (len cap:Nat),ρ x= .slice (some a) len cap→m < len→∀dst pos after guard,(execOp ρ ⟨dst, .indexAddr t x y,ty,pos,after,guard⟩).run P w= .ok (.value (.pointer (some (a.add (m * sz))))) w:=by
   intro a len cap ha hm dst pos after guard
   simp [execOp,Instr.indexAt,run_underlying ht,ha,ei,asIntOf,hm,ef hz]
  cases v <;> simp only[AV.av] at hx <;> simp only[hE,a6.not] at hr <;> try exact absurd hr.symm hf
  case sl z es g=>
   obtain⟨hb,cG⟩:=cB hr hf
   clear hr
   obtain rfl:z=sz:=cQ hb
   cases he:es[m]? with
   | none=>rw[he] at cG;exact absurd cG.symm hf
   | some el=>
    rw[he] at cG
    simp only at cG
    refine⟨_,cG,?_⟩
    have hm:=(bZ.1 he).1
    rcases hx.jF with⟨rfl,_,_⟩ | ⟨a,cap,aL,ex,h1,h2,h3,h4,h5,h6,h7⟩
    ·simp at he
    ·refine bA hs _ (run a _ _ ex hm) ?_
     have mH:=h4 el (List.mem_of_getElem? he)
     have nY:=eU es z h4
     refine .bO _ _ (fun j=>aL (m * z+j)) (qc (h3 (fun e0=>by simp_all)) _) (fun j hj=>?_) (fun j c hc=>?_)
     ·rw[add_add]
      refine h6 _ ?_
      rw[nY]
      have:(m+1) * z≤es.length * z:=Nat.mul_le_mul_right _ hm
      rw[Nat.succ_mul] at this
      omega
     ·have hj:j < z:=by rw[←mH];exact(bZ.1 hc).1
      exact h7 _ c (by rw[rO es z m el h4 he j hj];exact hc)
  case ck a off len cap z=>
   obtain⟨hb,cG⟩:=cB hr hf
   clear hr
   rw[bD] at hb
   obtain rfl:z=sz:=cQ hb.1
   have hm:m < len:=by simpa [Nat.blt_eq] using hb.2
   refine⟨_,cG,?_⟩
   cases ha:a.av s.aa with
   | l i=>cases a <;> simp [Loc.av] at ha
   | g d j=>
    rw[ha] at hx
    obtain⟨rc,e',hd,hj,_⟩:=hx.nq
    refine bA hs _ (run _ _ _ e' hm) ?_
    simp only[AV.av,ha,f7 (show(⟨κ.loc d j,off,none⟩:Addr).spot=none from rfl)]
    exact .ref d j _ hd hj
theorem HA{E:Env}(hE:E.F= .not){k:AV→St→ax}{r:ax}(hf:r≠.fail){t e:TypeId}{x y:Operand}{v i:AV}{sz len:Nat}(ht:P.underlying t=some (.array len e))(hz:fL P e=some sz)
  (hx:VR κ (s.aa+1) (v.av s.aa) (ρ x))(hi:VR κ (s.aa+1) (i.av s.aa) (ρ y))(hr:kQ E s k sz len v i=r):∃v',k v' s=r∧cW P (.indexAddr t x y) ty ρ κ s w v' s:=by
 unfold kQ at hr
 cases rn:eE i with
 | none=>rw[rn] at hr;exact absurd hr.symm hf
 | some m=>
  rw[rn] at hr
  obtain⟨kk,rfl⟩:=kY rn
  have ei:=hi.eD
  obtain⟨hb,cG⟩:=cB hr hf
  clear hr
  have hm:m < len:=by simpa [Nat.blt_eq] using hb
  have run:∀(a:Addr),ρ x= .pointer (some a)→∀dst pos after guard,(execOp ρ ⟨dst, .indexAddr t x y,ty,pos,after,guard⟩).run P w= .ok (.value (.pointer (some (a.add (m * sz))))) w:=by
   intro a ha dst pos after guard
   simp [execOp,Instr.indexAt,run_underlying ht,ha,ei,asIntOf,hm,ef hz,Instr.sureAddr]
  cases v <;> simp only[AV.av] at hx <;> simp only[hE,a6.not] at cG <;> try exact absurd cG.symm hf
  case bO cs=>
   obtain⟨a,aL,e',h1,h2,h3⟩:=hx.Ay
   refine⟨_,cG,bA hs _ (run a e') ?_⟩
   refine .bO _ _ (fun j=>aL (m * sz+j)) (qc h1 _) (fun j hj=>?_) (fun j c hc=>h3 _ c (by simpa using hc))
   rw[add_add]
   exact h2 _ (by simp at hj;omega)
  case ref a o=>
   refine⟨_,cG,?_⟩
   cases ha:a.av s.aa with
   | l i=>cases a <;> simp [Loc.av] at ha
   | g d j=>
    rw[ha] at hx
    obtain⟨e',hd,hj⟩:=hx.qh
    refine bA hs _ (run _ e') ?_
    simp only[AV.av,ha,f7 (show(⟨κ.loc d j,o,none⟩:Addr).spot=none from rfl)]
    exact .ref d j _ hd hj
omit hs in
theorem AF{v:AV}{m y:Nat}{x:Value}{D:Nat}(h:eE v=some m)(hx:VR κ D v x)(hm:m≤y)(code:BoundsCode):(Instr.sliceBound x y code).run P w= .ok m w:=by
 obtain⟨kk,rfl⟩:=kY h
 rw[hx.eD]
 simp [Instr.sliceBound,asIntOf,hm]
omit hs in
theorem T0{v:AV}{m:Nat}(h:eE v=some m)(d:Nat):v.av d=v:=by
 obtain⟨kk,rfl⟩:=kY h
 rfl
omit hs in
theorem Mi{G:Nat→AV}{fr:Nat→AV}{a:Act}(bS:FR κ s fr a)(hG:nV κ G){o:Option bG}{p:Option Operand}(h:ft o p=true){DG m:Nat}(hb:cL G fr o DG=some m):
  (o=none∧p=none∧m=DG)∨∃x y v,o=some x∧p=some y∧eE v=some m∧VR κ (s.aa+1) v (a.eval y):=by
 cases o with
 | none=>cases p with
  | none=>simp [cL] at hb;exact .inl ⟨rfl,rfl,hb.symm⟩
  | some y=>simp [ft] at h
 | some x=>cases p with
  | none=>simp [ft] at h
  | some y=>
   simp only[cL] at hb
   have hv:=bH bS hG (show cg x y=true by simpa [ft] using h)
   rw[T0 hb] at hv
   exact .inr ⟨x,y,_,rfl,rfl,hb,hv⟩
omit hs in
theorem wz{G:Nat→AV}{fr:Nat→AV}{a:Act}(bS:FR κ s fr a)(hG:nV κ G){o:Option bG}{p:Option Operand}(h:ft o p=true){DG m:Nat}(hb:cL G fr o DG=some m):
  (o=none∧p=none∧m=DG)∨∃x y,o=some x∧p=some y∧∀(Y:Nat) (code:BoundsCode),m≤Y→(Instr.sliceBound (a.eval y) Y code).run P w= .ok m w:=by
 rcases Mi bS hG h hb with h1 | ⟨x,y,v,h1,h2,h3,h4⟩
 ·exact .inl h1
 ·exact .inr ⟨x,y,h1,h2,fun Y code hm=>AF h3 h4 hm code⟩
omit hs in
theorem iP{G:Nat→AV}{fr:Nat→AV}{a:Act}(bS:FR κ s fr a)(hG:nV κ G){lo hi mx:Option bG}{wA wB xv:Option Operand}(l7:ft lo wA=true)(HB:ft hi wB=true)(HC:ft mx xv=true)
  {l h m len cap:Nat}(bl:cL G fr lo 0=some l)(bh:cL G fr hi len=some h)(bm:cL G fr mx cap=some m)(h1:l≤h)(h2:h≤m)(h3:m≤cap)(tR:mx.isSome=true→hi.isSome=true)(isl:Bool):
  (Instr.sliceBounds isl len cap (wA.map a.eval) (wB.map a.eval) (xv.map a.eval)).run P w= .ok (l,h,m) w:=by
 have h2':h≤cap:=by omega
 rcases wz (P:=P) (w:=w) bS hG l7 bl with⟨rfl,rfl,rfl⟩ | ⟨xl,yl,rfl,rfl,rl⟩ <;>
 rcases wz (P:=P) (w:=w) bS hG HB bh with⟨rfl,rfl,rfl⟩ | ⟨xh,yh,rfl,rfl,rh⟩ <;>
 rcases wz (P:=P) (w:=w) bS hG HC bm with⟨rfl,rfl,rfl⟩ | ⟨xm,ym,rfl,rfl,rm⟩ <;>
 first
  | (simp at tR;done)
  | simp (discharger:=omega) [Instr.sliceBounds, *]
end
section
variable{P:Program}{ty:TypeId}{ρ:Operand→Value}{κ:bR}{s:St}{w:World}(hs:dk κ s w)
theorem rP(a:ByteArray)(l h:Nat):(a.extract l h).data.toList=(a.data.toList.drop l).take (h - l):=by
 simp [List.extract_eq_take_drop]
include hs
theorem HD{E:Env}(hE:E.F= .not){k:AV→St→ax}{r:ax}(hf:r≠.fail){fr:Nat→AV}{a:Act}(bS:FR κ s fr a)(hG:nV κ E.aP){t:TypeId}{x:bG}{y:Operand}{lo hi:Option bG}{wA wB:Option Operand}(ht:P.underlying t=some .string)
  (TX:cg x y=true)(l7:ft lo wA=true)(HB:ft hi wB=true)(hr:me E fr s k (aM E.aP fr x) lo hi=r):∃v',k v' s=r∧cW P (.slice t y wA wB none) ty a.eval κ s w v' s:=by
 have hx:=bH bS hG TX
 generalize hv:aM E.aP fr x=v at hx hr
 cases v <;> simp only[AV.av] at hx <;> simp only[me] at hr <;> try exact absurd hr.symm hf
 rename_i bs
 cases bl:cL E.aP fr lo 0 with
 | none=>simp only[bl] at hr;exact absurd hr.symm hf
 | some l=>
  cases bh:cL E.aP fr hi bs.length with
  | none=>simp only[bl,bh] at hr;exact absurd hr.symm hf
  | some h=>
   simp only[bl,bh,hE,a6.not] at hr
   obtain⟨hb,cG⟩:=cB hr hf
   rw[bD] at hb
   have h1:=dL hb.1
   have h2:=dL hb.2
   obtain⟨c,ex,hc⟩:=hx.jL
   have dM:c.size=bs.length:=by have:=congrArg List.length hc;rw[cw,Array.length_toList] at this;exact this
   refine⟨_,cG,bA hs (.string (c.extract l h)) (fun _ _ _ _=>?_) (.str _ _ ?_)⟩
   ·have xu:=iP (P:=P) (w:=w) bS hG l7 HB (show ft none none=true from rfl) (len:=c.size) (cap:=c.size) bl (by rw[dM];exact bh) (m:=c.size) rfl h1 (by omega) (Nat.le_refl _) (by simp) false
    simp only[Option.map_none] at xu
    simp [execOp,Instr.sliceAt,Instr.slice,run_underlying ht,ex,xu]
   ·rw[rP,List.map_take,List.map_drop,hc]
theorem HE{E:Env}(hE:E.F= .not){k:AV→St→ax}{r:ax}(hf:r≠.fail){fr:Nat→AV}{a:Act}(bS:FR κ s fr a)(hG:nV κ E.aP){t e:TypeId}{sz n:Nat}{x:bG}{y:Operand}{lo hi mx:Option bG}{wA wB xv:Option Operand}(ht:P.underlying t=some (.array n e))(hz:fL P e=some sz)
  (TX:cg x y=true)(l7:ft lo wA=true)(HB:ft hi wB=true)(HC:ft mx xv=true)(tR:mx.isSome=true→hi.isSome=true)(hr:kf E fr s k sz n (aM E.aP fr x) lo hi mx=r):∃v',k v' s=r∧cW P (.slice t y wA wB xv) ty a.eval κ s w v' s:=by
 have hx:=bH bS hG TX
 generalize hv:aM E.aP fr x=v at hx hr
 have run:∀(A:Addr) (l h m:Nat),a.eval y= .pointer (some A)→(Instr.sliceBounds false n n (wA.map a.eval) (wB.map a.eval) (xv.map a.eval)).run P w= .ok (l,h,m) w→∀dst pos after guard,(execOp a.eval ⟨dst, .slice t y wA wB xv,ty,pos,after,guard⟩).run P w= .ok (.value (.slice (some (if m=l then A else A.add (l * sz))) (h - l) (m - l))) w:=by
  intro A l h m ex hb dst pos after guard
  simp [execOp,Instr.sliceAt,run_underlying ht,ex,hb,ef hz,Instr.sureAddr]
 cases v <;> simp only[AV.av] at hx <;> simp only[kf] at hr <;> try exact absurd hr.symm hf
 rename_i b off
 cases bl:cL E.aP fr lo 0 with
 | none=>simp only[bl] at hr;exact absurd hr.symm hf
 | some l=>
  cases bh:cL E.aP fr hi n with
  | none=>simp only[bl,bh] at hr;exact absurd hr.symm hf
  | some h=>
   cases bm:cL E.aP fr mx n with
   | none=>simp only[bl,bh,bm] at hr;exact absurd hr.symm hf
   | some m=>
    simp only[bl,bh,bm,hE,a6.not] at hr
    obtain⟨hb,cG⟩:=cB hr hf
    simp only[bD] at hb
    have h1:=dL hb.1.1
    have h2:=dL hb.1.2
    have h3:=dL hb.2
    refine⟨_,cG,?_⟩
    cases ha:b.av s.aa with
    | l i=>cases b <;> simp [Loc.av] at ha
    | g d j=>
     rw[ha] at hx
     obtain⟨ex,hd,hj⟩:=hx.qh
     have xu:=iP (P:=P) (w:=w) bS hG l7 HB HC (len:=n) (cap:=n) bl bh bm h1 h2 h3 tR false
     refine bA hs _ (run _ _ _ _ ex xu) ?_
     simp only[AV.av,ha]
     have:(if m=l then(⟨κ.loc d j,off,none⟩:Addr) else(⟨κ.loc d j,off,none⟩:Addr).add (l * sz))=⟨κ.loc d j,if m=l then off else off+l * sz,none⟩:=by
      split
      ·rfl
      ·simp [f7]
     rw[this]
     exact .ck d j _ _ _ _ sz hd hj (by omega) (.inl rfl)
omit hs in
theorem DJ.left{g:Gr}{es:List AV}(h:DJ g es)(hg:∀d j,g≠.bJ (.g d j)):∀e,e∈es→e.bo=true:=by
 rcases h with h | ⟨d,j,e,_⟩
 ·exact h
 ·exact absurd e (hg d j)
omit hs in
theorem DJ.part{g':Gr}{es:List AV}(h:∀e,e∈es→e.bo=true)(l n:Nat):DJ g' ((es.drop l).take n):=.inl fun e he=>h e (List.mem_of_mem_drop (List.mem_of_mem_take he))
theorem Jx{E:Env}(hE:E.F= .not){k:AV→St→ax}{r:ax}(hf:r≠.fail){fr:Nat→AV}{a:Act}(bS:FR κ s fr a)(hG:nV κ E.aP){t e:TypeId}{sz:Nat}{x:bG}{y:Operand}{lo hi mx:Option bG}{wA wB xv:Option Operand}(ht:P.underlying t=some (.slice e))(hz:fL P e=some sz)
  (TX:cg x y=true)(l7:ft lo wA=true)(HB:ft hi wB=true)(HC:ft mx xv=true)(tR:mx.isSome=true→hi.isSome=true)(hr:mC E fr s k sz (aM E.aP fr x) lo hi mx=r):∃v',k v' s=r∧cW P (.slice t y wA wB xv) ty a.eval κ s w v' s:=by
 have hx:=bH bS hG TX
 generalize hv:aM E.aP fr x=v at hx hr
 have run:∀(A:Option Addr) (len cap l h m:Nat),a.eval y= .slice A len cap→(Instr.sliceBounds true len cap (wA.map a.eval) (wB.map a.eval) (xv.map a.eval)).run P w= .ok (l,h,m) w→∀dst pos after guard,(execOp a.eval ⟨dst, .slice t y wA wB xv,ty,pos,after,guard⟩).run P w= .ok (.value (.slice (if m=l then A else A.map (·.add (l * sz))) (h - l) (m - l))) w:=by
  intro A len cap l h m ex hb dst pos after guard
  simp [execOp,Instr.sliceAt,Instr.slice,run_underlying ht,ex,hb,ef hz]
 cases v <;> simp only[AV.av] at hx <;> simp only[mC] at hr <;> try exact absurd hr.symm hf
 case sl z es g=>
  cases bl:cL E.aP fr lo 0 with
  | none=>simp only[bl] at hr;exact absurd hr.symm hf
  | some l=>
   cases bh:cL E.aP fr hi es.length with
   | none=>simp only[bl,bh] at hr;exact absurd hr.symm hf
   | some h=>
    simp only[bl,bh,hE,a6.not] at hr
    have part:∀(A:Addr) (cap:Nat) (aL:Nat→Value) (g':Gr),(es≠[]→A.spot=none)→(∀e,e∈es→e.cells.length=sz)→DJ (g'.av s.aa) ((es.drop l).take (h - l))→
      (∀j,j < (es.flatMap AV.cells).length→κ.F (A.add j)=some (aL j))→(∀(j:Nat) (c:AV),(es.flatMap AV.cells)[j]? =some c→VR κ (s.aa+1) c (aL j))→l≤h→h≤es.length→∀m,h≤m→
      kg κ (s.aa+1) sz (g'.av s.aa) (h - l) (if m=l then A else A.add (l * sz)) (m - l)→g'.av s.aa≠.nil→
      VR κ (s.aa+1) ((AV.sl sz ((es.drop l).take (h - l)) g').av s.aa) (.slice (some (if m=l then A else A.add (l * sz))) (h - l) (m - l)):=by
     intro A cap aL g' hA h4 h5 h6 h7 hlh hhl m hhm hg xw
     have hlen:((es.drop l).take (h - l)).length=h - l:=by simp;omega
     simp only[AV.av]
     have kj:∀e,e∈(es.drop l).take (h - l)→e∈es:=fun e he=>List.mem_of_mem_drop (List.mem_of_mem_take he)
     have ax2:=eU es sz h4
     have axC:=eU _ sz (fun e he=>h4 e (kj e he))
     have kh:∀j,j < (h - l) * sz→((((es.drop l).take (h - l))).flatMap AV.cells)[j]? =(es.flatMap AV.cells)[l * sz+j]?:=by
      intro j hj
      have aDm:0 < sz:=Nat.pos_of_ne_zero (fun h0=>by rw[h0] at hj;simp at hj)
      have hq:j / sz < h - l:=Nat.div_lt_of_lt_mul (by rw[Nat.mul_comm];exact hj)
      have jm:j % sz < sz:=Nat.mod_lt _ aDm
      have Md:j=j / sz * sz+j % sz:=by rw[Nat.mul_comm];exact(Nat.div_add_mod j sz).symm
      have hle:l+j / sz < es.length:=by omega
      have e1:((es.drop l).take (h - l))[j / sz]? =some es[l+j / sz]:=by
       rw[List.getElem?_take,if_pos hq,List.getElem?_drop,d8 hle]
      have e2:es[l+j / sz]? =some es[l+j / sz]:=d8 hle
      have f1:=rO _ sz _ _ (fun e he=>h4 e (kj e he)) e1 (j % sz) jm
      have f2:=rO es sz _ _ h4 e2 (j % sz) jm
      rw[←Md] at f1
      rw[f1,←f2]
      congr 1
      rw[Nat.add_mul]
      omega
     by_cases vN:m=l
     ·have h0:h - l=0:=by omega
      rw[if_pos vN] at hg ⊢
      have aDn:(es.drop l).take (h - l)=[]:=by rw[h0];simp
      rw[aDn]
      rw[h0] at hg ⊢
      exact .sl sz [] _ A _ aL hg (Nat.zero_le _) (fun h=>absurd rfl h) (fun e he=>by simp at he) (.inl fun e he=>by simp at he) (fun j hj=>by simp at hj) (fun j c hc=>by simp at hc)
     ·rw[if_neg vN] at hg ⊢
      have key:VR κ (s.aa+1) (AV.sl sz ((es.drop l).take (h - l)) (g'.av s.aa)) (.slice (some (A.add (l * sz))) ((es.drop l).take (h - l)).length (m - l)):=by
       refine .sl sz _ _ _ _ (fun j=>aL (l * sz+j)) (by rw[hlen];exact hg) (by rw[hlen];omega) (fun cK=>qc (hA (fun e0=>cK (by simp [e0]))) _) (fun e he=>h4 e (kj e he)) h5 (fun j hj=>?_) (fun j c hc=>?_)
       ·rw[add_add]
        refine h6 _ ?_
        rw[axC,hlen] at hj
        rw[ax2]
        have:h * sz≤es.length * sz:=Nat.mul_le_mul_right _ hhl
        have e3:l * sz+(h - l) * sz=h * sz:=by rw[←Nat.add_mul];congr 1;omega
        omega
       ·have hj:=(bZ.1 hc).1
        rw[axC,hlen] at hj
        rw[kh j hj] at hc
        exact h7 _ c hc
      rw[hlen] at key
      exact key
    cases mx with
    | none=>
     cases xv with
     | some y=>simp [ft] at HC
     | none=>
     simp only at hr
     obtain⟨hb,cG⟩:=cB hr hf
     rw[bD,bD,bD] at hb
     have T3:z=sz:=(cQ hb.1.1.1).symm
     subst T3
     have h1:=dL hb.1.1.2
     have h2:=dL hb.1.2
     have Jy:=hb.2
     refine⟨_,cG,?_⟩
     rcases hx.jF with⟨rfl,hg,ex⟩ | ⟨A,cap,aL,ex,hg,hn,hA,h4,h5,h6,h7⟩
     ·have xw:g= .nil:=by cases g <;> simp_all [Gr.av]
      subst xw
      simp only[eh,Nat.le_zero_eq] at h2
      subst h2
      simp only[Nat.le_zero_eq] at h1
      subst h1
      have xu:=iP (P:=P) (w:=w) bS hG l7 HB HC (len:=0) (cap:=0) bl bh (m:=0) rfl (Nat.le_refl _) (Nat.le_refl _) (Nat.le_refl _) (by simp) true
      exact bA hs _ (run _ _ _ _ _ _ ex xu) (by simp;exact .nR z)
     ·have xu:=iP (P:=P) (w:=w) bS hG l7 HB HC (len:=es.length) (cap:=cap) bl bh (m:=cap) rfl h1 (by omega) (Nat.le_refl _) (by simp) true
      refine bA hs _ (run _ _ _ _ _ _ ex xu) ?_
      have hp:=fun g' hs5 qg xw=>part A cap aL g' hA h4 hs5 h6 h7 h1 h2 cap (by omega) qg xw
      have e1:(if cap=l then some A else Option.map (fun x=>x.add (l * z)) (some A))=some (if cap=l then A else A.add (l * z)):=by split <;> rfl
      rw[e1]
      cases g with
      | nil=>simp [Gr.av,kg] at hg
      | any=>exact hp .any (.part (h5.left (by simp [Gr.av])) l (h - l)) trivial (by simp [Gr.av])
      | exact=>
       simp only[Gr.av,kg] at hg
       subst hg
       by_cases hh:h=es.length
       ·subst hh;simp only[↓reduceIte];exact hp .exact (.part (h5.left (by simp [Gr.av])) l _) rfl (by simp [Gr.av])
       ·simp only[hh,↓reduceIte];exact hp .any (.part (h5.left (by simp [Gr.av])) l (h - l)) trivial (by simp [Gr.av])
      | bJ b=>
       by_cases hh:l=0∧h=es.length
       ·obtain⟨rfl,rfl⟩:=hh
        simp only[true_and,↓reduceIte]
        refine hp (.bJ b) (by simpa using h5) ?_ (by simp [Gr.av])
        simp only[Nat.sub_zero,Nat.zero_mul,Addr.add,↓reduceIte]
        simpa using hg
       ·have jM:∀e,e∈es→e.bo=true:=by
         simp only[uV,Bool.or_eq_true,bD] at Jy
         rcases Jy with⟨q1,q2⟩ | q
         ·exact absurd ⟨cQ q1,cQ q2⟩ hh
         ·exact dX.1 q
        simp only[hh,↓reduceIte];exact hp .any (.part jM l (h - l)) trivial (by simp [Gr.av])
    | some xm=>
     cases xv with
     | none=>simp [ft] at HC
     | some ym=>
     cases bm:eE (aM E.aP fr xm) with
     | none=>
      simp only[bm] at hr
      cases g <;> simp only at hr <;> exact absurd hr.symm hf
     | some m=>
      simp only[bm] at hr
      have xw:g≠.nil:=by rintro rfl;exact absurd hr.symm hf
      have jm:(bif Nat.beq sz z && Nat.ble l h && Nat.ble h m && Nat.ble m es.length && tO g es then k (.sl z ((es.drop l).take (h - l)) (if h=m then .exact else .any)) s else .fail)=r:=by
       cases g <;> first | exact absurd rfl xw | exact hr
      obtain⟨hb,cG⟩:=cB jm hf
      simp only[bD] at hb
      have T3:z=sz:=(cQ hb.1.1.1.1).symm
      subst T3
      have h1:=dL hb.1.1.1.2
      have h2:=dL hb.1.1.2
      have h3:=dL hb.1.2
      have Jy:=hb.2
      refine⟨_,cG,?_⟩
      rcases hx.jF with⟨rfl,hg,ex⟩ | ⟨A,cap,aL,ex,hg,hn,hA,h4,h5,h6,h7⟩
      ·exact absurd (by cases g <;> simp_all [Gr.av]) xw
      ·have xu:=iP (P:=P) (w:=w) bS hG l7 HB HC (len:=es.length) (cap:=cap) bl bh (m:=m) bm h1 h2 (by omega) tR true
       refine bA hs _ (run _ _ _ _ _ _ ex xu) ?_
       have jM:∀e,e∈es→e.bo=true:=by
        cases g with
        | bJ b=>exact dX.1 Jy
        | nil=>exact h5.left (by simp [Gr.av])
        | exact=>exact h5.left (by simp [Gr.av])
        | any=>exact h5.left (by simp [Gr.av])
       have hp:=fun g' qg xw=>part A cap aL g' hA h4 (.part jM l (h - l)) h6 h7 h1 (by omega) m h2 qg xw
       have e1:(if m=l then some A else Option.map (fun x=>x.add (l * z)) (some A))=some (if m=l then A else A.add (l * z)):=by split <;> rfl
       rw[e1]
       by_cases hh:h=m
       ·subst hh;simp only[↓reduceIte];exact hp .exact rfl (by simp [Gr.av])
       ·simp only[hh,↓reduceIte];exact hp .any trivial (by simp [Gr.av])
 case ck b off len cap z=>
  cases bl:cL E.aP fr lo 0 with
  | none=>simp only[bl] at hr;exact absurd hr.symm hf
  | some l=>
   cases bh:cL E.aP fr hi len with
   | none=>simp only[bl,bh] at hr;exact absurd hr.symm hf
   | some h=>
    cases bm:cL E.aP fr mx cap with
    | none=>simp only[bl,bh,bm] at hr;exact absurd hr.symm hf
    | some m=>
     simp only[bl,bh,bm,hE,a6.not] at hr
     obtain⟨hb,cG⟩:=cB hr hf
     simp only[bD] at hb
     have T3:z=sz:=(cQ hb.1.1.1.1).symm
     subst T3
     have h1:=dL hb.1.1.1.2
     have h2:=dL hb.1.1.2
     have h3:=dL hb.1.2
     have CL:=dL hb.2
     refine⟨_,cG,?_⟩
     cases ha:b.av s.aa with
     | l i=>cases b <;> simp [Loc.av] at ha
     | g d j=>
      rw[ha] at hx
      obtain⟨ex,hd,hj⟩:=hx.agz CL
      have xu:=iP (P:=P) (w:=w) bS hG l7 HB HC (len:=len) (cap:=cap) bl bh bm h1 h2 h3 tR true
      refine bA hs _ (run _ _ _ _ _ _ ex xu) ?_
      simp only[AV.av,ha]
      have:(if m=l then some (⟨κ.loc d j,off,none⟩:Addr) else Option.map (fun(x:Addr)=>x.add (l * z)) (some ⟨κ.loc d j,off,none⟩))=some ⟨κ.loc d j,if m=l then off else off+l * z,none⟩:=by
       split
       ·rfl
       ·simp [f7]
      rw[this]
      exact .ck d j _ _ _ _ z hd hj (by omega) (.inl rfl)
end
theorem Jz(l:List Value):∀(n:Nat) (cs:Array Value) (off:Nat),(l.zipIdx n).foldl (fun cs (p:Value×Nat)=>cs.setIfInBounds (off+p.2) p.1) cs=(di cs.toList (off+n) l).toArray:=by
 induction l with
 | nil=>intro n cs off;simp [di]
 | cons v l ih=>
  intro n cs off
  simp only[List.zipIdx_cons,List.foldl_cons,di]
  rw[ih (n+1)]
  congr 1
  simp [Array.toList_setIfInBounds,Nat.add_assoc]
theorem vY(C:Array Value)(cs:Array Value)(off:Nat):C.zipIdx.foldl (fun cs (p:Value×Nat)=>cs.setIfInBounds (off+p.2) p.1) cs=(di cs.toList off C.toList).toArray:=by
 rw[←Array.foldl_toList,Array.toList_zipIdx,Jz]
 simp
section
variable{P:Program}{ty:TypeId}{ρ:Operand→Value}{κ:bR}{s:St}{w:World}(hs:dk κ s w)
def nu(place:Nat→Option (Nat×Nat)):List (Nat×Nat×bG)→List (Nat×Operand)→Bool
 | [],[]=>true
 | (off,sz,x) :: ps,(i,y) :: qs=>(place i == some (off,sz)) && cg x y && nu place ps qs
 | _,_=>false
theorem D2{G:Nat→AV}{fr:Nat→AV}{a:Act}(bS:FR κ s fr a)(hG:nV κ G)(place:Nat→Option (Nat×Nat)):∀(ps:List (Nat×Nat×bG)) (qs:List (Nat×Operand)) (cs nX:List AV) (xs:List Value),
  nu place ps qs=true→dS κ (s.aa+1) cs xs→fc G s.aa fr cs ps=some nX→∃Mj,Instr.fill place xs.toArray (qs.map fun p=>(p.1,a.eval p.2))=some Mj.toArray∧dS κ (s.aa+1) nX Mj
 | [],[],cs,nX,xs,_,h,hf=>by
  simp only[fc,bM] at hf
  exact⟨xs,rfl,hf ▸ h⟩
 | [],_ :: _,_,_,_,h,_,_=>by simp [nu] at h
 | _ :: _,[],_,_,_,h,_,_=>by simp [nu] at h
 | (off,sz,x) :: ps,(i,y) :: qs,cs,nX,xs,ct,h,hf=>by
  simp only[nu,bD,beq_iff_eq] at ct
  simp only[fc] at hf
  have hx:=bH bS hG ct.1.2
  generalize (aM G fr x).av s.aa=v at hx hf
  cases hb:(v.fF && Nat.beq v.cells.length sz && Nat.ble (off+sz) cs.length) with
  | false=>rw[hb] at hf;simp at hf
  | true=>
   rw[hb,cond_true] at hf
   simp only[bD] at hb
   have hv:=hx.cells hb.1.1
   have h1:=cQ hb.1.2
   have h2:=dL hb.2
   have h3:=h.di hv (o:=off) (by omega)
   obtain⟨Mj,e,xr⟩:=D2 bS hG place ps qs _ nX _ ct.2 h3 hf
   refine⟨Mj,?_,xr⟩
   have dM:(a.eval y).cells.size=sz:=by rw[←Array.length_toList,hv.1,h1]
   have hle:¬(off+(a.eval y).cells.size > xs.toArray.size):=by simp only[List.size_toArray,h.1,dM];omega
   have aDo:decide (off+(a.eval y).cells.size > xs.toArray.size)=false:=aT hle
   have jq:=vY (a.eval y).cells xs.toArray off
   simp only[List.map_cons,Instr.fill,ct.1.1,dM,ne_eq,not_true_eq_false,decide_false,Bool.false_or]
   rw[←dM,aDo]
   simp only[co,↓reduceIte]
   rw[jq]
   exact e
def lK(P:Program)(t:TypeId)(z:List AV):Bool:=
 match (P.info? t).bind (·.zero) with
 | some v=>qR z v.cells.toList
 | none=>false
theorem pP{t:TypeId}{z:List AV}(h:lK P t z=true)(w:World):∃v,(zeroValue t).run P w= .ok v w∧(∀κ D,dS κ D z v.cells.toList)∧AV.ba z=true∧∃i,P.info? t=some i∧i.zero=some v:=by
 unfold lK at h
 cases hi:P.info? t with
 | none=>simp [hi] at h
 | some i=>
  cases hz:i.zero with
  | none=>simp [hi,hz] at h
  | some v=>
   simp only[hi,jc,hz] at h
   obtain⟨h1,h2⟩:=rk _ _ h
   exact⟨v,by simp [zeroValue,typeInfo,hi,hz],h1,h2,i,rfl,hz⟩
include hs
theorem D3{v:Value}{t:TypeId}{o:Op}{cs:List AV}(hc:dS κ (s.aa+1) cs v.cells.toList)(h:∀dst pos after guard,(execOp ρ ⟨dst,o,ty,pos,after,guard⟩).run P w= .ok (.value (.pointer (some ⟨w.heap.size,0,none⟩))) (w.alloc (.cells v.cells t))):
  cW P o ty ρ κ s w (.ref (.l s.own.length) 0) (s.new (.cells cs)):=by
 obtain⟨κ',h1,h2,h3,h4⟩:=hs.Bq cs v.cells t hc (w':=w.alloc (.cells v.cells t)) rfl rfl rfl rfl
 refine⟨_,κ',_, .inl h,h2,h1,?_⟩
 simp only[AV.av,Loc.av]
 rw[←h3]
 exact .ref _ _ _ (Nat.lt_succ_self _) h4
theorem JA{t:TypeId}{z:List AV}(hz:lK P t z=true):cW P (.alloc t) ty ρ κ s w (.ref (.l s.own.length) 0) (s.new (.cells z)):=by
 obtain⟨v,e,h1,_,_⟩:=pP hz w
 exact D3 hs (v:=v) (t:=t) (h1 _ _) (fun _ _ _ _=>by simp [execOp,Instr.alloc,e,newVar,newRow])
theorem HF{t:TypeId}{x:Operand}{v:AV}(hx:VR κ (s.aa+1) (v.av s.aa) (ρ x))(hv:v.fF=true):cW P (.box t x) ty ρ κ s w (.ref (.l s.own.length) 0) (s.new (.cells (v.av s.aa).cells)):=
 D3 hs (v:=ρ x) (t:=t) (hx.cells (by rw[DV];exact hv)) (fun _ _ _ _=>by simp [execOp,Instr.box,newVar,newRow])
theorem vZ{C:Array Value}{t:TypeId}{o:Op}{cs:List AV}(hc:dS κ (s.aa+1) cs C.toList)(x:Addr→Value)(v:AV)(hxv:∀κ',jd κ κ' (s.aa+1)→(∀j,j < cs.length→κ'.F ⟨w.heap.size,j,none⟩=C[j]?)→VR κ' (s.aa+1) (v.av s.aa) (x ⟨w.heap.size,0,none⟩))
  (h:∀dst pos after guard,(execOp ρ ⟨dst,o,ty,pos,after,guard⟩).run P w= .ok (.value (x ⟨w.heap.size,0,none⟩)) (w.alloc (.cells C t))):cW P o ty ρ κ s w v s:=by
 obtain⟨h1,h2⟩:=hs.xn (w':=w.alloc (.cells C t)) C t (0,0) rfl rfl rfl rfl
 have hl:C.size=cs.length:=by simpa using hc.1
 refine⟨_,_,_, .inl h,h2,h1,hxv _ h2.k (fun j hj=>?_)⟩
 rw[sK (Nat.zero_le _) (by omega),Array.getElem?_eq_getElem (by omega)]
theorem JB{t:TypeId}{x:Operand}{v:AV}(hx:VR κ (s.aa+1) (v.av s.aa) (ρ x))(hv:v.fF=true):cW P (.box t x) ty ρ κ s w (.bO (v.av s.aa).cells) s:=by
 have hc:=hx.cells (by rw[DV];exact hv)
 refine vZ hs (t:=t) hc (fun a=>.pointer (some a)) _ (fun κ' hk hF=>?_) (fun _ _ _ _=>by simp [execOp,Instr.box,newVar,newRow])
 refine .bO _ _ (fun j=>(ρ x).cells.getD j undef) rfl (fun j hj=>?_) (fun j c hj=>?_)
 ·rw[f7 rfl]
  simp only[Nat.zero_add]
  rw[hF j hj]
  have:j < (ρ x).cells.size:=by have:=hc.1;simp at this;omega
  simp [Array.getD,this]
 ·obtain⟨y,hy,xr⟩:=hc.get hj
  have:(ρ x).cells.getD j undef=y:=by
   have D4:(ρ x).cells[j]? =some y:=by simpa using hy
   simp [Array.getD_eq_getD_getElem?,D4]
  rw[this]
  exact xr.mono hk
theorem HG{f:Nat}{cs:List bG}{ez:List Operand}{G:Nat→AV}{fr:Nat→AV}{a:Act}(bS:FR κ s fr a)(hG:nV κ G)(h:dj cs ez=true):
  cW P (.makeFunc (.func f) #[] ez.toArray) ty a.eval κ s w (.fn f (cs.map fun x=>(aM G fr x).av s.aa)) s:=by
 have key:∀(cs:List bG) (ez:List Operand),dj cs ez=true→dS κ (s.aa+1) (cs.map fun x=>(aM G fr x).av s.aa) (ez.map a.eval):=by
  intro cs
  induction cs with
  | nil=>intro ez h;cases ez with
   | nil=>exact .nil _ _
   | cons _ _=>simp [dj] at h
  | cons c cs ih=>intro ez h;cases ez with
   | nil=>simp [dj] at h
   | cons y ys=>
    simp only[dj,bD] at h
    exact .cons (bH bS hG h.1) (ih ys h.2)
 have hk:=key cs ez h
 exact bA hs (.func (.func f) #[] (ez.map a.eval).toArray) (fun _ _ _ _=>by simp [execOp,Instr.makeFunc]) (.fn f _ _ hk.1 hk.2)
theorem vO{G:Nat→AV}{fr:Nat→AV}{a:Act}(bS:FR κ s fr a)(hG:nV κ G){t:TypeId}{z cs:List AV}{ps:List (Nat×Nat×bG)}{qs:List (Nat×Operand)}{fs:Array Field}(ht:P.underlying t=some (.struct fs))(hz:lK P t z=true)
  {pl:Array (Nat×Nat)}(tG:(fs.toList.mapM fun f=>(fL P f.type).map fun n=>(f.offset,n))=some pl.toList)(ct:nu (pl[·]?) ps qs=true)(hc:fc G s.aa fr z ps=some cs):
  cW P (.build t qs.toArray) ty a.eval κ s w (.agg cs) s:=by
 obtain⟨v,e,h1,_,_⟩:=pP hz w
 have aDp:∀(fs:List Field) (pl:List (Nat×Nat)),(fs.mapM fun f=>(fL P f.type).map fun n=>(f.offset,n))=some pl→(fs.mapM fun f=>do pure (f.offset,←sizeOf f.type):Sem _).run P w= .ok pl w:=by
  intro fs
  induction fs with
  | nil=>intro pl h;simp at h;subst h;simp
  | cons f fs ih=>
   intro pl h
   simp only[List.mapM_cons,Option.bind_eq_bind,Option.bind_eq_some_iff,Option.pure_def,bM] at h
   obtain⟨p,hp,ps,hps,rfl⟩:=h
   cases dM:fL P f.type with
   | none=>simp [dM] at hp
   | some n=>
    simp only[dM,e9,bM] at hp
    subst hp
    have:=ih ps hps
    simp only[bind_pure_comp] at this
    simp [List.mapM_cons,ef dM,this]
 have hm:(fs.mapM fun f=>do pure (f.offset,←sizeOf f.type):Sem _).run P w= .ok pl w:=by
  rw[Array.mapM_eq_mapM_toList]
  have:=aDp fs.toList pl.toList tG
  simp only[bind_pure_comp] at this
  simp [this]
 obtain⟨Mj,e',hv⟩:=D2 bS hG _ ps qs z cs v.cells.toList ct (h1 _ _) hc
 refine bA hs (.agg Mj.toArray) (fun _ _ _ _=>?_) (.agg _ _ hv.1 hv.2)
 simp only[Array.toArray_toList] at e'
 simp only[bind_pure_comp] at hm
 simp [execOp,Instr.build,e,run_underlying ht,hm,e']
theorem wC{G:Nat→AV}{fr:Nat→AV}{a:Act}(bS:FR κ s fr a)(hG:nV κ G){t el:TypeId}{len sz:Nat}{z cs:List AV}{ps:List (Nat×Nat×bG)}{qs:List (Nat×Operand)}(ht:P.underlying t=some (.array len el))(dM:fL P el=some sz)(hz:lK P t z=true)
  (ct:nu (fun i=>some (i * sz,sz)) ps qs=true)(hc:fc G s.aa fr z ps=some cs):
  cW P (.build t qs.toArray) ty a.eval κ s w (.agg cs) s:=by
 obtain⟨v,e,h1,_,_⟩:=pP hz w
 obtain⟨Mj,e',hv⟩:=D2 bS hG _ ps qs z cs v.cells.toList ct (h1 _ _) hc
 refine bA hs (.agg Mj.toArray) (fun _ _ _ _=>?_) (.agg _ _ hv.1 hv.2)
 simp only[Array.toArray_toList] at e'
 simp [execOp,Instr.build,e,run_underlying ht,ef dM,e']
omit hs in
theorem tU{G:Nat→AV}{fr:Nat→AV}{a:Act}(bS:FR κ s fr a)(hG:nV κ G)(sz:Nat):∀(ps:List bG) (qs:List Operand) (i:Nat) (es:List AV) (pre:List Value) (rest:List Value),
  dj ps qs=true→es=ps.map (fun x=>(aM G fr x).av s.aa)→(∀e,e∈es→e.fF=true∧e.cells.length=sz)→pre.length=i * sz→rest.length=qs.length * sz→
  ∃xs,Instr.fill (fun i=>some (i * sz,sz)) (pre ++ rest).toArray ((qs.zipIdx i).map fun p=>(p.2,a.eval p.1))=some (pre ++ xs).toArray∧dS κ (s.aa+1) (es.flatMap AV.cells) xs
 | [],[],i,es,pre,rest,_,he,_,_,hr=>by
  subst he
  have:rest=[]:=by simpa using hr
  subst this
  exact⟨[],by simp [Instr.fill], .nil _ _⟩
 | [],_ :: _,_,_,_,_,h,_,_,_,_=>by simp [dj] at h
 | _ :: _,[],_,_,_,_,h,_,_,_,_=>by simp [dj] at h
 | x :: ps,y :: qs,i,es,pre,rest,ct,he,nM,hp,hr=>by
  simp only[dj,bD] at ct
  subst he
  have hx:=bH bS hG ct.1
  obtain⟨h1,h2⟩:=nM ((aM G fr x).av s.aa) (by simp)
  have hv:=hx.cells h1
  have dM:(a.eval y).cells.toList.length=sz:=by rw[hv.1,h2]
  have jM:rest.length=sz+qs.length * sz:=by rw[hr,cP,Nat.succ_mul,Nat.add_comm]
  have aDq:di (pre ++ rest) (i * sz) (a.eval y).cells.toList=(pre ++ (a.eval y).cells.toList) ++ rest.drop sz:=by
   apply List.ext_getElem?
   intro j
   rw[iK _ _ _ (by simp only[dp];omega),dM]
   by_cases Ml:j < i * sz
   ·rw[if_neg (by omega),pY,eZ (by omega),eZ (by omega)]
   ·by_cases AG:j < i * sz+sz
    ·rw[if_pos ⟨by omega,AG⟩,pY,List.getElem?_append_right (by omega),eZ (by omega),hp]
    ·rw[if_neg (by omega),List.getElem?_append_right (by omega),List.getElem?_append_right (by simp only[dp];omega),List.getElem?_drop]
     congr 1
     simp only[dp]
     omega
  obtain⟨xs,e,gY⟩:=tU bS hG sz ps qs (i+1) _ (pre ++ (a.eval y).cells.toList) (rest.drop sz) ct.2 rfl (fun e he=>nM e (by simp at he ⊢;exact .inr he)) (by simp only[dp,hp,dM,Nat.succ_mul]) (by simp only[List.length_drop];omega)
  refine⟨(a.eval y).cells.toList ++ xs,?_,by simpa using hv.append gY⟩
  have axD:(a.eval y).cells.size=sz:=by rw[←Array.length_toList];exact dM
  have hle:decide (i * sz+(a.eval y).cells.size > (pre ++ rest).toArray.size)=false:=aT (by simp only[List.size_toArray,dp];omega)
  have jq:=vY (a.eval y).cells (pre ++ rest).toArray (i * sz)
  rw[aDq] at jq
  simp only[List.zipIdx_cons,List.map_cons,Instr.fill,axD,ne_eq,not_true_eq_false,decide_false,Bool.false_or]
  rw[axD] at hle
  rw[hle]
  simp only[co,↓reduceIte]
  rw[jq,e,pY]
omit hs in
theorem tz{t el:TypeId}{sz n:Nat}{v:Value}{parts:Array (Nat×Value)}{xs:Array Value}(ht:P.underlying t=some (.slice el))(dM:fL P el=some sz)(hv:(zeroValue el).run P w= .ok v w)(f8:¬(n * sz > 2 ^ 24))
  (hf:Instr.fill (fun i=>some (i * sz,sz)) ((Array.range (n * sz)).map (v.cells[· % v.cells.size]!)) parts.toList=some xs):(Instr.buildSlice t n parts).run P w= .ok (.slice (some ⟨w.heap.size,0,none⟩) n n) (w.alloc (.cells xs el)):=by
 unfold Instr.buildSlice
 simp only[Sem.run_bind,run_underlying ht,Result.andThen_ok,ef dM]
 rw[if_neg f8]
 by_cases h0:n * sz=0
 ·have e0:(Array.range (n * sz)).map (fun x=>(#[]:Array Value)[x % (#[]:Array Value).size]!)=(Array.range (n * sz)).map (v.cells[· % v.cells.size]!):=by
   rw[h0];simp
  rw[if_pos h0]
  simp only[Sem.run_bind,Sem.run_pure,Result.andThen_ok]
  rw[e0,hf]
  simp [newRow]
 ·rw[if_neg h0]
  simp only[Sem.run_bind,hv,Result.andThen_ok,Sem.run_pure]
  rw[hf]
  simp [newRow]
theorem xx{G:Nat→AV}{fr:Nat→AV}{a:Act}(bS:FR κ s fr a)(hG:nV κ G){t el:TypeId}{sz:Nat}{z:List AV}{ps:List bG}{qs:List Operand}(ht:P.underlying t=some (.slice el))(dM:fL P el=some sz)(hz:lK P el z=true)(hzl:z.length=sz)
  (f8:¬(qs.length * sz > 2 ^ 24))(ct:dj ps qs=true)(hr:AV.ba (ps.map (aM G fr))=true)(hv:∀e,e∈ps.map (aM G fr)→e.fF=true∧e.cells.length=sz):
  cW P (.buildSlice t qs.length (qs.zipIdx.map fun p=>(p.2,p.1)).toArray) ty a.eval κ s w (.sl sz (ps.map (aM G fr)) .exact) s:=by
 obtain⟨v,e,h1,_,_⟩:=pP hz w
 have axE:ps.map (fun x=>(aM G fr x).av s.aa)=ps.map (aM G fr):=by
  apply List.map_congr_left
  intro x hx
  exact lJ (dX.1 hr _ (List.mem_map_of_mem hx)) _
 have D5:v.cells.size=sz:=by rw[←Array.length_toList,(h1 κ 0).1,hzl]
 have hlen:(ps.map (aM G fr)).length=qs.length:=by
  have:∀(ps:List bG) (qs:List Operand),dj ps qs=true→ps.length=qs.length:=by
   intro ps
   induction ps with
   | nil=>intro qs h;cases qs <;> simp [dj] at h ⊢
   | cons p ps ih=>intro qs h;cases qs with
    | nil=>simp [dj] at h
    | cons q qs=>simp only[dj,bD] at h;simp [ih qs h.2]
  simp [this ps qs ct]
 obtain⟨xs,e',gY⟩:=tU bS hG sz ps qs 0 (ps.map (aM G fr)) [] ((Array.range (qs.length * sz)).map (v.cells[· % v.cells.size]!)).toList ct axE.symm hv (by simp) (by simp)
 have ko:∀dst pos after guard,(execOp a.eval ⟨dst, .buildSlice t qs.length (qs.zipIdx.map fun p=>(p.2,p.1)).toArray,ty,pos,after,guard⟩).run P w= .ok (.value (.slice (some ⟨w.heap.size,0,none⟩) qs.length qs.length)) (w.alloc (.cells xs.toArray el)):=by
  intro dst pos after guard
  simp only[List.nil_append,Array.toArray_toList] at e'
  have hrb:=tz (parts:=((qs.zipIdx.map fun p=>(p.2,p.1)).toArray.map fun p=>(p.1,a.eval p.2))) ht dM e f8 (xs:=xs.toArray) (by
   rw[Array.toList_map,List.map_map]
   exact e')
  have hx:∀(o:Oper),o.op= .buildSlice t qs.length (qs.zipIdx.map fun p=>(p.2,p.1)).toArray→execOp a.eval o=(do pure (.value (←Instr.buildSlice t qs.length ((qs.zipIdx.map fun p=>(p.2,p.1)).toArray.map fun p=>(p.1,a.eval p.2)))):Sem Next):=by
   intro o ho
   unfold execOp
   rw[ho]
  rw[hx _ rfl,Sem.run_bind,hrb]
  rfl
 have hc:dS κ (s.aa+1) ((ps.map (aM G fr)).flatMap AV.cells) xs.toArray.toList:=gY
 generalize Mm:Op.buildSlice t qs.length (qs.zipIdx.map fun p=>(p.2,p.1)).toArray=op at ko ⊢
 generalize hn:qs.length=n at ko hlen
 generalize nM:ps.map (aM G fr)=es at hc hlen hr hv ⊢
 clear Mm hn e' gY axE f8 ct
 refine vZ hs (t:=el) hc (fun A=>.slice (some A) n n) (.sl sz es .exact) (fun κ' hk hF=>?_) ko
 simp only[AV.av,Gr.av]
 rw[←hlen]
 refine .sl sz _ .exact _ _ (fun j=>xs.getD j undef) rfl (Nat.le_refl _) (fun _=>rfl) (fun e he=>(hv e he).2) (.inl fun e he=>dX.1 hr e he) (fun j hj=>?_) (fun j c hj=>?_)
 ·rw[f7 rfl]
  simp only[Nat.zero_add]
  rw[hF j hj]
  have hl:xs.length=(es.flatMap AV.cells).length:=hc.1
  have:j < xs.length:=by omega
  simp [List.getD,this]
 ·obtain⟨y,hy,xr⟩:=hc.get hj
  have:xs.getD j undef=y:=by
   have D4:xs[j]? =some y:=hy
   simp [List.getD,D4]
  rw[this]
  exact xr.mono hk
end
theorem HH(c:AV):(YK c).cells=[c]:=by cases c <;> rfl
theorem fT(sz:Nat):∀(n:Nat) (cs:List AV),(chunk sz n cs).length=n
 | 0,_=>rfl
 | n+1,cs=>by simp [chunk,fT sz n]
theorem nw(sz:Nat)(dM:sz≠0):∀(n:Nat) (cs:List AV),n * sz≤cs.length→(chunk sz n cs).flatMap AV.cells=cs.take (n * sz)∧∀e,e∈chunk sz n cs→e.cells.length=sz
 | 0,cs,_=>by simp [chunk]
 | n+1,cs,h=>by
  rw[Nat.succ_mul] at h
  obtain⟨h1,h2⟩:=nw sz dM n (cs.drop sz) (by simp;omega)
  have hd:(DE sz cs).cells=cs.take sz:=by
   unfold DE
   split
   ·cases cs with
    | nil=>simp at h
    | cons c cs=>rw[HH];simp
   ·rfl
  have hl:(cs.take sz).length=sz:=by simp;omega
  refine⟨?_,?_⟩
  ·simp only[chunk,List.flatMap_cons]
   rw[hd,h1,Nat.succ_mul,Nat.add_comm,←List.take_add]
  ·intro e he
   simp only[chunk,List.mem_cons] at he
   rcases he with rfl | he
   ·rw[hd,hl]
   ·exact h2 e he
section
variable{P:Program}{ty:TypeId}{ρ:Operand→Value}{κ:bR}{s:St}{w:World}(hs:dk κ s w)
include hs
theorem CM{v:AV}{x:Operand}(hx:VR κ (s.aa+1) (v.av s.aa) (ρ x))(hn:isNil v=some false):cW P (.nilCheck x) ty ρ κ s w v s:=by
 refine bA hs (ρ x) (fun dst pos after guard=>?_) hx
 generalize hy:ρ x=y at hx
 generalize hv:v.av s.aa=v' at hx
 have hn':isNil v'=some false:=by
  rw[←hv]
  cases v with
  | sl sz es g=>cases g <;> first | exact hn | (simp [isNil] at hn)
  | _=>exact hn
 cases hx <;> simp [isNil] at hn' <;> simp [execOp,hy]
omit hs in
theorem T4{v:AV}(d:Nat):isNil (v.av d)=isNil v:=by
 cases v with
 | sl sz es g=>cases g <;> rfl
 | _=>rfl
omit hs in
theorem Mn{e:EK}{v:AV}(d:Nat):ij e (v.av d)=ij e v:=by
 cases v <;> cases e <;> rfl
def v3(e:EK)(d:TypeDesc):Bool:=
 match e,d with
 | .bool, .bool | .slice, .slice _ | .ptr, .pointer _ | .func, .func .. | .map, .map .. | .iface, .interface _=>true
 | _,_=>false
omit hs in
theorem Bt(t:TypeId)(X Y:Value):Op.equal t X Y=Op.equalIn (9999+1) t X Y:=rfl
inductive ik:TypeDesc→Value→Value→Bool→Prop
 | bool (a b:Bool):ik .bool (.bool a) (.bool b) (a == b)
 | ap8 (el:TypeId) (l c:Nat) (B:Option Addr) (l' c':Nat):ik (.slice el) (.slice none l c) (.slice B l' c') B.isNone
 | ap9 (el:TypeId) (a:Addr) (l c l' c':Nat):ik (.slice el) (.slice (some a) l c) (.slice none l' c') false
 | aDr (el:TypeId) (B:Option Addr):ik (.pointer el) (.pointer none) (.pointer B) B.isNone
 | aDs (el:TypeId) (a:Addr):ik (.pointer el) (.pointer (some a)) (.pointer none) false
 | func0 (p r:Array TypeId) (v:Bool):ik (.func p r v) .nilFunc .nilFunc true
 | func1 (p r:Array TypeId) (v:Bool) (f:Fn) (x y:Array Value):ik (.func p r v) .nilFunc (.func f x y) false
 | func2 (p r:Array TypeId) (v:Bool) (f:Fn) (x y:Array Value):ik (.func p r v) (.func f x y) .nilFunc false
 | aDt (k el:TypeId) (B:Option Nat):ik (.map k el) (.map none) (.map B) B.isNone
 | aDu (k el:TypeId) (a:Nat):ik (.map k el) (.map (some a)) (.map none) false
 | aqa (ms:Array (String×TypeId)) (t:TypeId) (v:Value):ik (.interface ms) .nilIface (.iface t v) false
 | YR (ms:Array (String×TypeId)) (t:TypeId) (v:Value):ik (.interface ms) (.iface t v) .nilIface false
omit hs in
theorem ik.run{t:TypeId}{d:TypeDesc}(ht:P.underlying t=some d){X Y:Value}{b:Bool}(h:ik d X Y b):(Op.equal t X Y).run P w= .ok b w:=by
 rw[Bt]
 generalize (9999:Nat)=n
 cases h <;> simp only[Op.equalIn,Sem.run_bind,run_underlying ht,Result.andThen_ok,Sem.run_pure]
omit hs in
theorem ik.guard{d:TypeDesc}{X Y:Value}{b:Bool}(h:ik d X Y b)(op:BinOp)(t:TypeId)(x y:Operand):(eqGuard op t x y X Y).run P w= .ok () w:=by
 cases h <;> unfold eqGuard <;> cases op <;> rfl
omit hs in
theorem ik.aih{t yt:TypeId}{d:TypeDesc}(ht:P.underlying t=some d){x y:Operand}{b:Bool}(neg:Bool)(h:ik d (ρ x) (ρ y) b)(dst:Option Tmp)(pos:String)(after:Array Edge)(guard:Option (Nat×Bool)):
  (execOp ρ ⟨dst, .binOp (if neg then .neq else .eql) t x y yt,ty,pos,after,guard⟩).run P w= .ok (.value (.bool (bif neg then !b else b))) w:=by
 have h1:=h.run (w:=w) ht
 have h2:=h.guard (P:=P) (w:=w) (if neg then .neq else .eql) t x y
 have hb:∀(op:BinOp),op= .eql∨op= .neq→binOp op t (ρ x) (ρ y)=match op with
   | .eql=>(do pure (.bool (←Op.equal t (ρ x) (ρ y))):Sem Value)
   | _=>(do pure (.bool (!(←Op.equal t (ρ x) (ρ y)))):Sem Value):=by
  intro op ho
  generalize ρ x=X at h
  generalize ρ y=Y at h
  rcases ho with rfl | rfl <;> cases h <;> rfl
 cases neg
 ·have gl:=hb .eql (.inl rfl)
  simp only[co,↓reduceIte] at h2 ⊢
  simp only[execOp,Sem.run_bind,h2,Result.andThen_ok,gl,h1,Sem.run_pure,cond_false]
 ·have gl:=hb .neq (.inr rfl)
  simp only[↓reduceIte] at h2 ⊢
  simp only[execOp,Sem.run_bind,h2,Result.andThen_ok,gl,h1,Sem.run_pure,cond_true]
omit hs in
theorem Mo(e:EK)(v u:AV)(d:Nat):tE e (v.av d) (u.av d)=tE e v u:=by
 cases e with
 | bool=>cases v <;> cases u <;> rfl
 | agg=>cases v <;> cases u <;> rfl
 | _=>simp only[tE,Mn,T4]
omit hs in
theorem Bu{D:Nat}{v:AV}{X:Value}(h:VR κ D v X)(hk:ij .slice v=true):∃A l c,X= .slice A l c∧∀b,isNil v=some b→A.isNone=b:=by
 cases v <;> simp [ij] at hk
 case sl sz es g=>
  rcases h.jF with⟨rfl,rfl,rfl⟩ | ⟨a,cap,aL,rfl,hg,_⟩
  ·exact⟨_,_,_,rfl,fun b hb=>by simpa [isNil] using hb⟩
  ·refine⟨_,_,_,rfl,fun b hb=>?_⟩
   cases g <;> simp [isNil,kg] at hb hg <;> simp [←hb]
 case ck a off len cap sz=>
  cases h
  exact⟨_,_,_,rfl,fun b hb=>by simpa [isNil] using hb⟩
omit hs in
theorem Iz{D:Nat}{v:AV}{X:Value}(h:VR κ D v X)(hk:ij .ptr v=true):∃A,X= .pointer A∧∀b,isNil v=some b→A.isNone=b:=by
 cases h <;> simp [ij] at hk <;> exact⟨_,rfl,fun b hb=>by simpa [isNil] using hb⟩
omit hs in
theorem D6{D:Nat}{v:AV}{X:Value}(h:VR κ D v X)(hk:ij .func v=true):(X= .nilFunc∧∀b,isNil v=some b→b=true)∨((∃f x y,X= .func f x y)∧∀b,isNil v=some b→b=false):=by
 cases h <;> simp [ij] at hk
 ·exact .inr ⟨⟨_,_,_,rfl⟩,fun b hb=>by simpa [isNil] using hb.symm⟩
 ·exact .inl ⟨rfl,fun b hb=>by simpa [isNil] using hb.symm⟩
omit hs in
theorem IA{D:Nat}{v:AV}{X:Value}(h:VR κ D v X)(hk:ij .map v=true):∃A,X= .map A∧∀b,isNil v=some b→A.isNone=b:=by
 cases h <;> simp [ij] at hk <;> exact⟨_,rfl,fun b hb=>by simpa [isNil] using hb⟩
omit hs in
theorem Bv{D:Nat}{v:AV}{X:Value}(h:VR κ D v X)(hk:ij .iface v=true):(X= .nilIface∧∀b,isNil v=some b→b=true)∨((∃t x,X= .iface t x)∧∀b,isNil v=some b→b=false):=by
 cases h <;> simp [ij] at hk
 ·exact .inr ⟨⟨_,_,rfl⟩,fun b hb=>by simpa [isNil] using hb.symm⟩
 ·exact .inl ⟨rfl,fun b hb=>by simpa [isNil] using hb.symm⟩
omit hs in
theorem aii{D:Nat}{e:EK}{v u:AV}{X Y:Value}{d:TypeDesc}{b:Bool}(hd:v3 e d=true)(hx:VR κ D v X)(hy:VR κ D u Y)(h:tE e v u=some b):ik d X Y b:=by
 have main:e≠.bool→(∀ks,e≠.agg ks)→∃p q,ij e v=true∧ij e u=true∧isNil v=some p∧isNil u=some q∧(p=true∧b=q∧¬(q=true∧e= .iface)∨p=false∧q=true∧b=false):=by
  intro h1 h2
  have h':(bif ij e v && ij e u then
    match isNil v,isNil u with
    | some true,some b=>bif b && decide (e= .iface) then none else some b
    | some false,some true=>some false
    | _,_=>none
   else none)=some b:=by
   cases e <;> first | exact absurd rfl h1 | exact absurd rfl (h2 _) | exact h
  cases hk:(ij e v && ij e u) with
  | false=>rw[hk] at h';simp at h'
  | true=>
   rw[hk,cond_true] at h'
   rw[bD] at hk
   cases hv:isNil v with
   | none=>rw[hv] at h';simp at h'
   | some p=>
    cases hu:isNil u with
    | none=>rw[hv,hu] at h';cases p <;> simp at h'
    | some q=>
     rw[hv,hu] at h'
     refine⟨p,q,hk.1,hk.2,rfl,rfl,?_⟩
     cases p
     ·cases q
      ·simp at h'
      ·right;simp at h';exact⟨rfl,rfl,h'⟩
     ·left
      simp only at h'
      cases hq:(q && decide (e= .iface)) with
      | true=>rw[hq] at h';simp at h'
      | false=>rw[hq] at h';simp at h' hq;exact⟨rfl,h'.symm,by simpa using hq⟩
 cases e
 case bool=>
  have hd':d= .bool:=by cases d <;> simp [v3] at hd ⊢
  subst hd'
  cases v <;> cases u <;> simp [tE] at h
  subst h
  rw[hx.iO,hy.iO]
  exact .bool _ _
 case agg ks=>cases d <;> simp [v3] at hd
 case slice=>
  obtain⟨el,rfl⟩:∃el,d= .slice el:=by cases d <;> simp [v3] at hd ⊢
  obtain⟨p,q,k1,k2,n1,n2,hb⟩:=main (by simp) (by simp)
  obtain⟨A,l,c,rfl,hA⟩:=Bu hx k1
  obtain⟨B,l',c',rfl,hB⟩:=Bu hy k2
  have hA:=hA p n1
  have hB:=hB q n2
  rcases hb with⟨rfl,rfl,_⟩ | ⟨rfl,rfl,rfl⟩
  ·cases A <;> simp at hA;rw[←hB];exact .ap8 ..
  ·cases A <;> simp at hA;cases B <;> simp at hB;exact .ap9 ..
 case ptr=>
  obtain⟨el,rfl⟩:∃el,d= .pointer el:=by cases d <;> simp [v3] at hd ⊢
  obtain⟨p,q,k1,k2,n1,n2,hb⟩:=main (by simp) (by simp)
  obtain⟨A,rfl,hA⟩:=Iz hx k1
  obtain⟨B,rfl,hB⟩:=Iz hy k2
  have hA:=hA p n1
  have hB:=hB q n2
  rcases hb with⟨rfl,rfl,_⟩ | ⟨rfl,rfl,rfl⟩
  ·cases A <;> simp at hA;rw[←hB];exact .aDr ..
  ·cases A <;> simp at hA;cases B <;> simp at hB;exact .aDs ..
 case map=>
  obtain⟨k,el,rfl⟩:∃k el,d= .map k el:=by cases d <;> simp [v3] at hd ⊢
  obtain⟨p,q,k1,k2,n1,n2,hb⟩:=main (by simp) (by simp)
  obtain⟨A,rfl,hA⟩:=IA hx k1
  obtain⟨B,rfl,hB⟩:=IA hy k2
  have hA:=hA p n1
  have hB:=hB q n2
  rcases hb with⟨rfl,rfl,_⟩ | ⟨rfl,rfl,rfl⟩
  ·cases A <;> simp at hA;rw[←hB];exact .aDt ..
  ·cases A <;> simp at hA;cases B <;> simp at hB;exact .aDu ..
 case func=>
  obtain⟨ps,rs,vv,rfl⟩:∃ps rs vv,d= .func ps rs vv:=by cases d <;> simp [v3] at hd ⊢
  obtain⟨p,q,k1,k2,n1,n2,hb⟩:=main (by simp) (by simp)
  rcases D6 hx k1 with⟨rfl,hA⟩ | ⟨⟨f,x,y,rfl⟩,hA⟩ <;> rcases D6 hy k2 with⟨rfl,hB⟩ | ⟨⟨f',x',y',rfl⟩,hB⟩ <;> have hA:=hA p n1 <;> have hB:=hB q n2 <;> subst hA hB <;> simp at hb <;> try subst hb
  ·exact .func0 ..
  ·exact .func1 ..
  ·exact .func2 ..
 case iface=>
  obtain⟨ms,rfl⟩:∃ms,d= .interface ms:=by cases d <;> simp [v3] at hd ⊢
  obtain⟨p,q,k1,k2,n1,n2,hb⟩:=main (by simp) (by simp)
  rcases Bv hx k1 with⟨rfl,hA⟩ | ⟨⟨f,x,rfl⟩,hA⟩ <;> rcases Bv hy k2 with⟨rfl,hB⟩ | ⟨⟨f',x',rfl⟩,hB⟩ <;> have hA:=hA p n1 <;> have hB:=hB q n2 <;> subst hA hB <;> simp at hb <;> try subst hb
  ·exact .aqa ..
  ·exact .YR ..
theorem Mp{neg:Bool}{v:AV}{t yt:TypeId}{x:Operand}{ms:Array (String×TypeId)}{op:BinOp}{z:AV}(Mm:op=if neg then .neq else .eql)(ht:P.underlying t=some (.interface ms))(hx:VR κ (s.aa+1) (v.av s.aa) (ρ x))(hc:ρ (.const .nilIface)= .nilIface)(h:Au neg v=some z):cW P (.binOp op t x (.const .nilIface) yt) ty ρ κ s w z s:=by
 cases v <;> simp [Au] at h
 case iface t' v'=>
  subst h
  obtain⟨y,ey,hy⟩:=VR.TW (t:=t') (v:=v') hx
  have hf:ik (.interface ms) (ρ x) (ρ (.const .nilIface)) false:=by rw[ey,hc];exact .YR ms t' y
  have:=bA (P:=P) (ty:=ty) (o:=.binOp op t x (.const .nilIface) yt) (ρ:=ρ) hs (v:=.bool neg) _ (fun dst pos after guard=>by
   have:=hf.aih (ty:=ty) (w:=w) (yt:=yt) ht neg dst pos after guard
   rw[Mm]
   exact this) (by cases neg <;> exact .bool _)
  exact this
 case fa=>
  subst h
  have ex:ρ x= .nilIface:=by
   simp only[AV.av] at hx
   generalize ρ x=q at hx
   cases hx;rfl
  refine bA hs (.bool (!neg)) (fun dst pos after guard=>?_) (.bool _)
  subst Mm
  have e1:(Op.equal t .nilIface .nilIface).run P w= .ok true w:=by
   rw[Bt]
   generalize (9999:Nat)=n
   simp only[Op.equalIn,Sem.run_bind,run_underlying ht,Result.andThen_ok,Sem.run_pure]
  cases neg
  ·have e2:(eqGuard .eql t x (.const .nilIface) .nilIface .nilIface).run P w= .ok () w:=by
    unfold eqGuard
    cases x <;> rfl
   have hb:binOp .eql t .nilIface .nilIface=(do pure (.bool (←Op.equal t .nilIface .nilIface)):Sem Value):=rfl
   simp only[execOp,co,↓reduceIte,ex,hc,Sem.run_bind,e2,Result.andThen_ok,hb,e1,Sem.run_pure,Bool.not_false]
  ·have e2:(eqGuard .neq t x (.const .nilIface) .nilIface .nilIface).run P w= .ok () w:=by
    unfold eqGuard
    cases x <;> rfl
   have hb:binOp .neq t .nilIface .nilIface=(do pure (.bool (!(←Op.equal t .nilIface .nilIface))):Sem Value):=rfl
   simp only[execOp,↓reduceIte,ex,hc,Sem.run_bind,e2,Result.andThen_ok,hb,e1,Sem.run_pure,Bool.not_true]
theorem agB{e:EK}{b neg:Bool}{v u:AV}{t yt:TypeId}{x y:Operand}{d:TypeDesc}{op:BinOp}(Mm:op=if neg then .neq else .eql)(ht:P.underlying t=some d)(hd:v3 e d=true)
  (hx:VR κ (s.aa+1) (v.av s.aa) (ρ x))(hy:VR κ (s.aa+1) (u.av s.aa) (ρ y))(h:tE e v u=some b):cW P (.binOp op t x y yt) ty ρ κ s w (.bool (bif neg then !b else b)) s:=by
 subst Mm
 exact bA hs _ ((aii hd hx hy (by rw[Mo];exact h)).aih ht neg) (.bool _)
end
end Go.Ab
end
