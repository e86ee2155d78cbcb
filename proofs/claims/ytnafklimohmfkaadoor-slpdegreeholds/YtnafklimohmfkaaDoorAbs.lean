/- The abstract evaluator: values as trees, a small stack of mutable objects, and the abstract code of a Go function; nothing of the machine stands in this file but its integer kinds and operators. -/
import Derived.Calls
import Derived.Below
import Derived.Laws.World
import Derived.Laws.Cells
import Derived.Laws.Entries
import Derived.Laws.IdiomCopy
section
/- The abstract evaluator: values as trees, a small stack of mutable objects, and the abstract code of a Go function; nothing of the machine stands in this file but its integer kinds and operators. -/
namespace Go.Ab

/-- Where a mutable object lies: in the running frame, or in the frame at a depth. -/
inductive Loc where
  | l (i : Nat)
  | g (d i : Nat)
  deriving DecidableEq, Inhabited

/-- What is known of the room behind a slice that is only read. -/
inductive Gr where
  | nil | exact | any
  | buf (a : Loc)
  deriving Inhabited

inductive AV where
  | dead
  | bool (b : Bool)
  | int (k : IntKind) (n : Int)
  | str (s : List Nat)
  | sl (sz : Nat) (es : List AV) (g : Gr)
  | msl (a : Loc) (off len cap sz : Nat)
  | ref (a : Loc) (off : Nat)
  | vptr (cs : List AV)
  | nilp
  | fn (f : Nat) (caps : List AV)
  | nilf
  | map (a : Loc)
  | nilmap
  | iface (t : Nat) (v : AV)
  | nili
  | agg (cs : List AV)
  | tup (vs : List AV)
  deriving Inhabited

inductive AObj where
  | cells (cs : List AV)
  | tok (n : Nat)
  | map (es : List (AV × AV))
  | gone
  deriving Inhabited

/-- The mutable objects: the running frame's, those of the frames behind it, and frames that may only be read. -/
structure St where
  own : List AObj
  up : List (List AObj)
  ro : List (List AObj)
  deriving Inhabited

def St.depth (s : St) : Nat := s.up.length + s.ro.length

inductive Res where
  | fail
  | ok (v : AV) (s : St)
  | panic (v : AV) (s : St)
  deriving Inhabited

/-- The temporaries: a tree, temporary 0 at the root, the odd ones to the left. -/
inductive Tr where
  | e
  | n (l : Tr) (v : AV) (r : Tr)
  deriving Inhabited

def Tr.get : Tr → Nat → AV
  | .e, _ => .dead
  | .n l v r, i => bif Nat.beq i 0 then v else bif Nat.beq (i % 2) 1 then l.get ((i - 1) / 2) else r.get ((i - 1) / 2)

/-- A temporary is set; what follows gets the tree itself. -/
def Tr.setK : Nat → Nat → AV → (Tr → Res) → Tr → Res
  | 0, _, _, _, _ => .fail
  | d + 1, i, v, k, .e =>
    bif Nat.beq i 0 then k (.n .e v .e)
    else bif Nat.beq (i % 2) 1 then Tr.setK d ((i - 1) / 2) v (fun l => k (.n l .dead .e)) .e
    else Tr.setK d ((i - 1) / 2) v (fun r => k (.n .e .dead r)) .e
  | d + 1, i, v, k, .n l x r =>
    bif Nat.beq i 0 then k (.n l v r)
    else bif Nat.beq (i % 2) 1 then Tr.setK d ((i - 1) / 2) v (fun l => k (.n l x r)) l
    else Tr.setK d ((i - 1) / 2) v (fun r => k (.n l x r)) r

/-- Which temporaries live on. -/
inductive Mk where
  | e
  | n (l : Mk) (b : Bool) (r : Mk)
  deriving Inhabited

def Tr.maskK : Mk → (Tr → Res) → Tr → Res
  | .e, k, _ => k .e
  | .n ml _ mr, k, .e => Tr.maskK ml (fun l => Tr.maskK mr (fun r => k (.n l .dead r)) .e) .e
  | .n ml b mr, k, .n l v r => Tr.maskK ml (fun l => Tr.maskK mr (fun r => k (.n l (bif b then v else .dead) r)) r) l

inductive AOpd where
  | t (n : Nat)
  | c (v : AV)
  | g (n : Nat)
  | at (t b off : Nat)   -- t's, where it is b's, moved by off (else nothing)
  | adv (b off : Nat)    -- b's, moved by off
  deriving Inhabited

/-- The keys of a map. -/
inductive KD where
  | int (k : IntKind) | str | bool
  deriving DecidableEq, Inhabited

/-- What is compared. -/
inductive EK where
  | bool | slice | ptr | func | map | iface | agg
  deriving DecidableEq, Inhabited

inductive AOp where
  | move (x : AOpd)
  | moveF (x : AOpd)
  | pick (c a b : AOpd)
  | alloc (zero : List AV)
  | boxRo (x : AOpd)
  | boxMut (x : AOpd)
  | build (zero : List AV) (parts : List (Nat × Nat × AOpd))
  | buildSlice (sz : Nat) (parts : List AOpd)
  | load (n : Option Nat) (a : AOpd)
  | store (n : Nat) (a v : AOpd)
  | nilCheck (x : AOpd)
  | bin (op : BinOp) (x y : AOpd)
  | eq (neg : Bool) (e : EK) (x y : AOpd)
  | un (op : UnOp) (x : AOpd)
  | convInt (k : IntKind) (x : AOpd)
  | convId (x : AOpd)
  | bytesToStr (x : AOpd)
  | strToBytes (x : AOpd)
  | mkIface (t : Nat) (x : AOpd)
  | mkFunc (f : Nat) (caps : List AOpd)
  | makeSlice (zero : List AV) (bytes : Nat) (l c : AOpd)
  | subStr (x : AOpd) (lo hi : Option AOpd)
  | slice (sz : Nat) (x : AOpd) (lo hi mx : Option AOpd)
  | fieldAddr (off : Nat) (a : AOpd)
  | field (off : Nat) (n : Option Nat) (x : AOpd)
  | idxSl (sz : Nat) (x i : AOpd)
  | idxArr (sz len : Nat) (x i : AOpd)
  | idxStr (x i : AOpd)
  | idxAgg (sz len : Nat) (n : Option Nat) (x i : AOpd)
  | extract (x : AOpd) (i : Nat)
  | call (f : Nat) (args : List AOpd)
  | callV (f : AOpd) (args : List AOpd)
  | callP (f : Nat) (args : List AOpd)
  | callVP (f : AOpd) (args : List AOpd)
  | len (str : Bool) (x : AOpd)
  | append (sz bytes : Nat) (at_ : Option AOpd) (s x : AOpd)
  | copy (sz : Nat) (d s : AOpd)
  | min (xs : List AOpd)
  | max (xs : List AOpd)
  | makeMap (at_ : Option AOpd)
  | mapPut (kd : KD) (m k v : AOpd)
  | lookup (kd : KD) (zero : AV) (ok : Bool) (m k : AOpd)
  | nilI (neg : Bool) (x : AOpd)
  | callC (ks : List (Option Nat × AOpd)) (f : Nat) (args : List AOpd)
  | callVC (ks : List (Option Nat × AOpd)) (f : AOpd) (args : List AOpd)
  | sliceA (sz len : Nat) (x : AOpd) (lo hi mx : Option AOpd)
  | appendS (sz bytes : Nat) (at_ : Option AOpd) (s x : AOpd)
  | appendR (sz bytes : Nat) (at_ : Option AOpd) (s x : AOpd)
  | buildSliceR (sz : Nat) (parts : List AOpd)
  | no
  deriving Inhabited

structure AOper where
  dst : Option Nat
  guard : Option (Nat × Bool)
  op : AOp
  deriving Inhabited

inductive ACode where
  | skip
  | region (chk : Option (List (AOpd × Nat × AOpd × Nat))) (ops : List AOper)
  | seq (a b : ACode)
  | mask (m : Mk) (a : ACode)
  | cond (c : AOpd) (thn els : ACode)
  | block (id : Nat) (body : ACode)
  | loop (keep : Mk) (body : ACode)
  | exit (id : Nat)
  | scope (body : ACode)
  | ret
  deriving Inhabited

inductive ARes where
  | t (n : Nat)
  | cell (a : Nat) (n : Option Nat)
  deriving Inhabited

structure AFn where
  np : Nat
  nt : Nat
  results : List ARes
  keep : Bool
  body : ACode
  deriving Inhabited

/-! ### Values -/
mutual
def AV.refless : AV → Bool
  | .msl .. | .ref .. | .map _ => false
  | .sl _ _ (.buf _) => false
  | .vptr cs | .fn _ cs | .agg cs | .tup cs => AV.reflessL cs
  | .iface _ v => v.refless
  | _ => true
def AV.reflessL : List AV → Bool
  | [] => true
  | v :: vs => v.refless && AV.reflessL vs
end

def Loc.low (d : Nat) : Loc → Bool
  | .l _ => false
  | .g e _ => Nat.ble e d
mutual
/-- Does it refer to no object of a frame above a depth? -/
def AV.low (d : Nat) : AV → Bool
  | .msl a _ _ _ _ => a.low d
  | .ref a _ => a.low d
  | .map a => a.low d
  | .sl _ _ (.buf a) => a.low d
  | .vptr cs | .fn _ cs | .agg cs | .tup cs => AV.lowL d cs
  | .iface _ v => v.low d
  | _ => true
def AV.lowL (d : Nat) : List AV → Bool
  | [] => true
  | v :: vs => v.low d && AV.lowL d vs
end

def Loc.pub (d : Nat) : Loc → Loc
  | .l i => .g d i
  | a => a
def Gr.pub (d : Nat) : Gr → Gr
  | .buf a => .buf (a.pub d)
  | g => g
/-- A temporary's value as every frame reads it. -/
def AV.pub (d : Nat) : AV → AV
  | .sl sz es g => .sl sz es (g.pub d)
  | .msl a off len cap sz => .msl (a.pub d) off len cap sz
  | .ref a off => .ref (a.pub d) off
  | .map a => .map (a.pub d)
  | v => v

def AV.cells : AV → List AV
  | .agg cs => cs
  | v => [v]

def chunk1 : AV → AV
  | .agg xs => .agg [.agg xs]
  | c => c
/-- A row of cells as elements of so many cells each. -/
def chunkHd (sz : Nat) (cs : List AV) : AV :=
  match sz with
  | 1 => chunk1 (cs.getD 0 .dead)
  | _ => .agg (cs.take sz)
def chunk (sz : Nat) : Nat → List AV → List AV
  | 0, _ => []
  | n + 1, cs => chunkHd sz cs :: chunk sz n (cs.drop sz)

/-! ### Objects -/
def St.get (s : St) : Loc → Option AObj
  | .l i => s.own[i]?
  | .g d i => if d = s.depth then s.own[i]? else if d < s.depth then ((s.up ++ s.ro)[s.depth - 1 - d]?).bind (·[i]?) else none

def St.set (s : St) (a : Loc) (o : AObj) : Option St :=
  match a with
  | .l i => some { s with own := s.own.set i o }
  | .g d i =>
    if d = s.depth then some { s with own := s.own.set i o }
    else if d < s.depth ∧ s.ro.length ≤ d then some { s with up := s.up.modify (s.depth - 1 - d) (·.set i o) }
    else none

/-- Is it an object of the running frame? -/
def St.isOwn (s : St) : Loc → Bool
  | .l _ => true
  | .g d _ => d = s.depth

/-- May these values be stored in an object? -/
def St.takes (s : St) (a : Loc) (vs : List AV) : Bool :=
  s.isOwn a || AV.reflessL vs || (match a with
    | .g d _ => AV.lowL d vs
    | .l _ => false)

def St.new (s : St) (o : AObj) : St := { s with own := s.own ++ [o] }

/-- A new object in the frame of another one. -/
def St.newBy (s : St) (a : Loc) (o : AObj) : Option (Loc × St) :=
  match a with
  | .l _ => some (.l s.own.length, s.new o)
  | .g d _ =>
    if d = s.depth then some (.l s.own.length, s.new o)
    else if d < s.depth ∧ s.ro.length ≤ d then
      match s.up[s.depth - 1 - d]? with
      | some l => some (.g d l.length, { s with up := s.up.modify (s.depth - 1 - d) (· ++ [o]) })
      | none => none
    else none

def locSame : Loc → Loc → Bool
  | .l i, .l j => Nat.beq i j
  | .g d i, .g e j => Nat.beq d e && Nat.beq i j
  | _, _ => false
def advV : AV → Nat → AV
  | .ref a o, off => .ref a (o + off)
  | _, _ => .dead
def atV : AV → AV → Nat → AV
  | .ref a o, .ref a' o', off => bif locSame a a' && Nat.beq o (o' + off) then .ref a o else .dead
  | _, _, _ => .dead
theorem locSame_eq {a b : Loc} (h : locSame a b = true) : a = b := by
  cases a <;> cases b <;> simp [locSame] at h
  · rw [h]
  · rw [h.1, h.2]
theorem atV_or (x y : AV) (off : Nat) : atV x y off = .dead ∨ (atV x y off = x ∧ atV x y off = advV y off) := by
  cases x <;> cases y <;> try exact .inl rfl
  · rename_i a o a' o'
    have e : atV (.ref a o) (.ref a' o') off = bif locSame a a' && Nat.beq o (o' + off) then .ref a o else .dead := rfl
    rw [e]
    cases h : locSame a a' && Nat.beq o (o' + off) with
    | false => exact .inl rfl
    | true =>
      simp only [Bool.and_eq_true] at h
      have h1 := locSame_eq h.1
      have h2 := Nat.eq_of_beq_eq_true h.2
      subst h1 h2
      exact .inr ⟨rfl, rfl⟩
def opnd (G : Nat → AV) (fr : Nat → AV) : AOpd → AV
  | .t n => fr n
  | .c v => v
  | .g n => G n
  | .at t b off => atV (fr t) (fr b) off
  | .adv b off => advV (fr b) off

def putK (fr : Tr) (d : Option Nat) (v : AV) (k : Tr → Res) : Res :=
  match d with
  | some n => fr.setK 12 n v k
  | none => k fr

/-- How far what has been reckoned is reckoned out before it is handed on: it changes nothing but the kernel's pace. -/
structure Force where
  v0 : AV → (AV → Res) → Res
  v1 : AV → (AV → Res) → Res
  l : List AV → (List AV → Res) → Res
  s : St → (St → Res) → Res
def Force.not : Force := { v0 := fun v k => k v, v1 := fun v k => k v, l := fun v k => k v, s := fun v k => k v }

def asNat : AV → Option Nat
  | .int _ n => if 0 ≤ n then some n.toNat else none
  | _ => none

/-- The elements of a slice, as values that hold no reference. -/
def elemsOf (s : St) : AV → Option (Nat × List AV)
  | .sl sz es (.buf _) => if AV.reflessL es then some (sz, es) else none
  | .sl sz es _ => some (sz, es)
  | .str bs => some (1, bs.map fun b => .int .u8 (b : Nat))
  | .msl a off len _ sz =>
    match s.get a with
    | some (.cells cs) => let es := chunk sz len (cs.drop off); if AV.reflessL es && Nat.ble (off + len * sz) cs.length && !Nat.beq sz 0 then some (sz, es) else none
    | _ => none
  | _ => none

def eqPlain : List AV → List AV → Option Bool
  | [], [] => some true
  | .int k a :: xs, .int k' b :: ys => if k = k' then (eqPlain xs ys).map ((a == b) && ·) else none
  | .bool a :: xs, .bool b :: ys => (eqPlain xs ys).map ((a == b) && ·)
  | .str a :: xs, .str b :: ys => (eqPlain xs ys).map ((a == b) && ·)
  | _, _ => none

def strLess : List Nat → List Nat → Bool
  | _, [] => false
  | [], _ :: _ => true
  | a :: x, b :: y => Nat.blt a b || (Nat.beq a b && strLess x y)

def intBin (op : BinOp) (k : IntKind) (a b : Int) : Option AV :=
  match op with
  | .add => some (.int k (k.wrap (a + b)))
  | .sub => some (.int k (k.wrap (a - b)))
  | .mul => some (.int k (k.wrap (a * b)))
  | .quo => if b = 0 then none else some (.int k (k.wrap (a.tdiv b)))
  | .rem => if b = 0 then none else some (.int k (a.tmod b))
  | .and => some (.int k (k.wrap (BitVec.ofInt k.bits a &&& BitVec.ofInt k.bits b).toNat))
  | .or => some (.int k (k.wrap (BitVec.ofInt k.bits a ||| BitVec.ofInt k.bits b).toNat))
  | .xor => some (.int k (k.wrap (BitVec.ofInt k.bits a ^^^ BitVec.ofInt k.bits b).toNat))
  | .andNot => some (.int k (k.wrap (BitVec.ofInt k.bits a &&& ~~~BitVec.ofInt k.bits b).toNat))
  | .eql => some (.bool (a == b))
  | .neq => some (.bool (a != b))
  | .lss => some (.bool (a < b))
  | .leq => some (.bool (a ≤ b))
  | .gtr => some (.bool (a > b))
  | .geq => some (.bool (a ≥ b))
  | _ => none

def shiftV (op : BinOp) (k : IntKind) (a b : Int) : Option AV :=
  if b < 0 then none else
  match op with
  | .shl => some (.int k (k.wrap (a * 2 ^ (min b.toNat k.bits))))
  | .shr => some (.int k (a.fdiv (2 ^ (min b.toNat k.bits))))
  | _ => none

def strBin (op : BinOp) (x y : List Nat) : Option AV :=
  match op with
  | .add => if Nat.ble (x.length + y.length) 1099511627776 then some (.str (x ++ y)) else none
  | .eql => some (.bool (x == y))
  | .neq => some (.bool (!(x == y)))
  | .lss => some (.bool (strLess x y))
  | .leq => some (.bool (strLess x y || x == y))
  | .gtr => some (.bool (!(strLess x y || x == y)))
  | .geq => some (.bool (!strLess x y))
  | _ => none

/-- Is it nil? (where that can be told) -/
def isNil : AV → Option Bool
  | .nilp | .nilf | .nilmap | .nili => some true
  | .sl _ _ .nil => some true
  | .sl _ _ .exact | .sl _ _ .any | .sl _ _ (.buf _) | .msl .. | .ref .. | .vptr _ | .fn .. | .map _ | .iface .. => some false
  | _ => none

/-- Is it a value of a kind that may be nil? -/
def kindOK : EK → AV → Bool
  | .slice, .sl .. | .slice, .msl .. => true
  | .ptr, .nilp | .ptr, .ref .. | .ptr, .vptr _ => true
  | .func, .nilf | .func, .fn .. => true
  | .map, .nilmap | .map, .map _ => true
  | .iface, .nili | .iface, .iface .. => true
  | _, _ => false

def eqV (e : EK) (x y : AV) : Option Bool :=
  match e with
  | .bool =>
    match x, y with
    | .bool a, .bool b => some (a == b)
    | _, _ => none
  | .agg =>
    match x, y with
    | .agg xs, .agg ys => eqPlain xs ys
    | _, _ => none
  | e =>
    bif kindOK e x && kindOK e y then
      match isNil x, isNil y with
      | some true, some b => bif b && decide (e = .iface) then none else some b
      | some false, some true => some false
      | _, _ => none
    else none

/-- Is it the nil of an interface type? -/
def nilIV (neg : Bool) : AV → Option AV
  | .nili => some (.bool (!neg))
  | .iface .. => some (.bool neg)
  | _ => none
def binV (op : BinOp) (x y : AV) : Option AV :=
  match op, x, y with
  | .shl, .int k a, .int _ b => shiftV .shl k a b
  | .shr, .int k a, .int _ b => shiftV .shr k a b
  | op, .int k a, .int k' b => if k = k' then intBin op k a b else none
  | op, .str a, .str b => strBin op a b
  | _, _, _ => none

def unV (op : UnOp) (x : AV) : Option AV :=
  match op, x with
  | .neg, .int k n => some (.int k (k.wrap (0 - n)))
  | .xor, .int k n => some (.int k (k.wrap (BitVec.ofInt k.bits (if k.signed then -1 else k.max) ^^^ BitVec.ofInt k.bits n).toNat))
  | .not, .bool b => some (.bool (!b))
  | _, _ => none

def min2 (x y : AV) : Option AV :=
  match x, y with
  | .int k a, .int _ b => some (.int k (if b < a then b else a))
  | _, _ => none
def max2 (x y : AV) : Option AV :=
  match x, y with
  | .int k a, .int _ b => some (.int k (if b > a then b else a))
  | _, _ => none
def foldV (f : AV → AV → Option AV) : AV → List AV → Option AV
  | x, [] => some x
  | x, y :: ys => (f x y).bind fun z => foldV f z ys

def bound (G : Nat → AV) (fr : Nat → AV) (o : Option AOpd) (dflt : Nat) : Option Nat :=
  match o with
  | none => some dflt
  | some x => asNat (opnd G fr x)

def natBytes (es : List AV) : Option (List Nat) :=
  match es with
  | [] => some []
  | .int .u8 n :: es => if n.toNat < 256 then (natBytes es).map (n.toNat :: ·) else none
  | _ => none

/-- Cells written over others from a place on. -/
def splice {α : Type} (cs : List α) (off : Nat) (vs : List α) : List α :=
  match vs with
  | [] => cs
  | v :: vs => splice (cs.set off v) (off + 1) vs

/-- Is it the value of a variable? -/
def AV.isVal : AV → Bool
  | .dead | .tup _ => false
  | _ => true
/-- Is it the value of one cell? -/
def AV.isCell : AV → Bool
  | .dead | .tup _ | .agg _ => false
  | _ => true

def fillParts (G : Nat → AV) (d : Nat) (fr : Nat → AV) : List AV → List (Nat × Nat × AOpd) → Option (List AV)
  | cs, [] => some cs
  | cs, (off, sz, x) :: ps =>
    let v := (opnd G fr x).pub d
    bif v.isVal && Nat.beq v.cells.length sz && Nat.ble (off + sz) cs.length then fillParts G d fr (splice cs off v.cells) ps else none

/-- Do two variables lie apart? -/
def apartB (G : Nat → AV) (fr : Nat → AV) : AOpd × Nat × AOpd × Nat → Bool
  | (x, n, y, m) =>
    match opnd G fr x, opnd G fr y with
    | .ref (.l i) o, .ref (.l j) q => !Nat.beq i j || Nat.ble (o + n) q || Nat.ble (q + m) o
    | .vptr _, .ref .. => true
    | _, _ => false

inductive AX where
  | norm | exit (id : Nat) | ret | panic (v : AV)
  deriving Inhabited

/-- What follows, and a piece of code. -/
abbrev KK := AX → Tr → St → Res
abbrev SS := Tr → St → KK → Res
def seqK (g : SS) (k : KK) : KK := fun x fr s =>
  match x with
  | .norm => g fr s k
  | x => k x fr s
def joinK (m : Mk) (g : SS) (k : KK) : KK := fun x fr s =>
  match x with
  | .norm => Tr.maskK m (fun fr => g fr s k) fr
  | x => k x fr s
def blockK (id : Nat) (k : KK) : KK := fun x fr s =>
  match x with
  | .exit j => bif Nat.beq j id then k .norm fr s else k (.exit j) fr s
  | x => k x fr s
def loopIter (step : SS) (keep : Mk) : Nat → SS
  | 0, _, _, _ => .fail
  | n + 1, fr, s, k => step fr s (joinK keep (loopIter step keep n) k)

/-- What a function's code runs in: its calls, and how its loops go round. -/
structure Env where
  F : Force
  glob : Nat → AV
  call : Nat → List AV → St → Res
  loop : SS → Mk → SS

def Loc.same : Loc → Loc → Bool
  | .l i, .l j => Nat.beq i j
  | .g d i, .g e j => Nat.beq d e && Nat.beq i j
  | _, _ => false
def Gr.same : Gr → Gr → Bool
  | .nil, .nil | .exact, .exact | .any, .any => true
  | .buf a, .buf b => a.same b
  | _, _ => false
mutual
def AV.same : AV → AV → Bool
  | .dead, .dead | .nilp, .nilp | .nilf, .nilf | .nilmap, .nilmap | .nili, .nili => true
  | .bool a, .bool b => a == b
  | .int k a, .int k' b => decide (k = k') && a == b
  | .str a, .str b => a == b
  | .sl z a g, .sl z' b g' => Nat.beq z z' && g.same g' && AV.sameL a b
  | .msl a x y z q, .msl a' x' y' z' q' => a.same a' && Nat.beq x x' && Nat.beq y y' && Nat.beq z z' && Nat.beq q q'
  | .ref a x, .ref a' x' => a.same a' && Nat.beq x x'
  | .vptr a, .vptr b => AV.sameL a b
  | .fn f a, .fn f' b => Nat.beq f f' && AV.sameL a b
  | .map a, .map b => a.same b
  | .iface t v, .iface t' v' => Nat.beq t t' && v.same v'
  | .agg a, .agg b => AV.sameL a b
  | .tup a, .tup b => AV.sameL a b
  | _, _ => false
def AV.sameL : List AV → List AV → Bool
  | [], [] => true
  | a :: as, b :: bs => a.same b && AV.sameL as bs
  | _, _ => false
end

/-- A frame of reference for a new object. -/
def atLoc (G : Nat → AV) (fr : Nat → AV) : Option AOpd → Option Loc
  | none => some (.l 0)
  | some x =>
    match opnd G fr x with
    | .ref a _ => some a
    | .map a => some a
    | _ => none

/-- Are two keys of a map the same? -/
def keyEq : AV → AV → Option Bool
  | .int k a, .int k' b => if k = k' then some (a == b) else none
  | .str a, .str b => some (a == b)
  | .bool a, .bool b => some (a == b)
  | _, _ => none
def isKey : KD → AV → Bool
  | .int k, .int k' _ => decide (k' = k)
  | .str, .str _ => true
  | .bool, .bool _ => true
  | _, _ => false
def findKey (k : AV) : List (AV × AV) → Option (Option AV)
  | [] => some none
  | (x, v) :: es =>
    match keyEq k x with
    | some true => some (some v)
    | some false => findKey k es
    | none => none
def putKey (k v : AV) : List (AV × AV) → Option (List (AV × AV))
  | [] => some [(k, v)]
  | (x, u) :: es =>
    match keyEq k x with
    | some true => some ((x, v) :: es)
    | some false => (putKey k v es).map ((x, u) :: ·)
    | none => none

section
variable (E : Env) (fr : Nat → AV) (s : St) (k kp : AV → St → Res)

def oV (v : Option AV) : Res :=
  match v with
  | some v => E.F.v1 v fun v => k v s
  | none => .fail

def loadV (m : Option Nat) (cs : List AV) : Res :=
  match m with
  | none => match cs with
    | c :: _ => E.F.v0 c fun v => k v s
    | [] => .fail
  | some n => bif Nat.ble n cs.length then E.F.v1 (.agg (cs.take n)) fun v => k v s else .fail

def storeV (a : Loc) (off : Nat) (vs : List AV) : Res :=
  match s.get a with
  | some (.cells cs) =>
    bif Nat.ble (off + vs.length) cs.length && s.takes a vs && vs.all AV.isCell then
      E.F.l (splice cs off vs) fun cs =>
      match s.set a (.cells cs) with
      | some s => E.F.s s fun s => k .dead s
      | none => .fail
    else .fail
  | _ => .fail

def subStrV (x : AV) (lo hi : Option AOpd) : Res :=
  match x with
  | .str bs =>
    match bound E.glob fr lo 0, bound E.glob fr hi bs.length with
    | some l, some h => bif Nat.ble l h && Nat.ble h bs.length then E.F.v1 (.str ((bs.drop l).take (h - l))) fun v => k v s else .fail
    | _, _ => .fail
  | _ => .fail

/-- A part of a list that grows: all of it, or a part whose elements refer to nothing. -/
def partOK (g : Gr) (l h : Nat) (es : List AV) : Bool :=
  match g with
  | .buf _ => (Nat.beq l 0 && Nat.beq h es.length) || AV.reflessL es
  | _ => true
def partAny (g : Gr) (es : List AV) : Bool :=
  match g with
  | .buf _ => AV.reflessL es
  | _ => true
def sliceV (z : Nat) (x : AV) (lo hi mx : Option AOpd) : Res :=
  match x with
  | .sl sz es g =>
    match bound E.glob fr lo 0, bound E.glob fr hi es.length with
    | some l, some h =>
      match mx with
      | none =>
        bif Nat.beq z sz && Nat.ble l h && Nat.ble h es.length && partOK g l h es then
          E.F.v1 (.sl sz ((es.drop l).take (h - l)) (match g with
            | .nil => .nil
            | .exact => if h = es.length then .exact else .any
            | .buf a => if l = 0 ∧ h = es.length then .buf a else .any
            | .any => .any)) fun v => k v s
        else .fail
      | some x =>
        match asNat (opnd E.glob fr x), g with
        | _, .nil => .fail
        | some m, _ => bif Nat.beq z sz && Nat.ble l h && Nat.ble h m && Nat.ble m es.length && partAny g es then E.F.v1 (.sl sz ((es.drop l).take (h - l)) (if h = m then .exact else .any)) fun v => k v s else .fail
        | _, _ => .fail
    | _, _ => .fail
  | .msl a off len cap sz =>
    match bound E.glob fr lo 0, bound E.glob fr hi len, bound E.glob fr mx cap with
    | some l, some h, some m =>
      bif Nat.beq z sz && Nat.ble l h && Nat.ble h m && Nat.ble m cap then E.F.v1 (.msl a (if m = l then off else off + l * sz) (h - l) (m - l) sz) fun v => k v s else .fail
    | _, _, _ => .fail
  | _ => .fail

def appendV (q bytes : Nat) (b : Loc) (x y : AV) : Res :=
  match elemsOf s y with
  | none => .fail
  | some (z, new) =>
    match x with
    | .sl sz es g =>
      bif Nat.beq z q && Nat.beq sz q && Nat.ble ((es.length + new.length) * bytes) 1099511627776 then
        match new with
        | [] => k (.sl sz es g) s
        | _ :: _ =>
          match g with
          | .nil | .exact =>
            match s.newBy b (.tok (es.length + new.length)) with
            | some (l, s) => E.F.v1 (.sl sz (es ++ new) (.buf l)) fun v => E.F.s s fun s => k v s
            | none => .fail
          | .buf a =>
            match s.get a with
            | some (.tok n) =>
              bif Nat.beq n es.length && (new.flatMap AV.cells).all AV.isCell then
                match s.set a (.tok (es.length + new.length)) with
                | some s => E.F.v1 (.sl sz (es ++ new) (.buf a)) fun v => E.F.s s fun s => k v s
                | none => .fail
              else .fail
            | _ => .fail
          | .any => .fail
      else .fail
    | .msl a off len cap sz =>
      match s.get a with
      | some (.cells cs) =>
        bif Nat.beq z q && Nat.beq sz q && Nat.ble (len + new.length) cap && Nat.ble (off + (len + new.length) * sz) cs.length && s.takes a new && (new.flatMap AV.cells).all AV.isCell then
          E.F.l (splice cs (off + len * sz) (new.flatMap AV.cells)) fun cs =>
          match s.set a (.cells cs) with
          | some s => E.F.v1 (.msl a off (len + new.length) cap sz) fun v => E.F.s s fun s => k v s
          | none => .fail
        else .fail
      | _ => .fail
    | _ => .fail

/-- Do these values refer to nothing that lies above a slice's room? -/
def lowAt (s : St) (l : Loc) (vs : List AV) : Bool :=
  match l with
  | .l _ => AV.lowL s.depth vs
  | .g d _ => AV.lowL d vs
/-- An append of elements that may refer to objects. -/
def appendRV (q bytes : Nat) (b : Loc) (x y : AV) : Res :=
  match y with
  | .sl z new _ =>
    match x with
    | .sl sz es g =>
      bif Nat.beq z q && Nat.beq sz q && Nat.ble ((es.length + new.length) * bytes) 1099511627776 then
        match new with
        | [] => .fail
        | _ :: _ =>
          match g with
          | .nil =>
            bif lowAt s b new then
              match s.newBy b (.tok (es.length + new.length)) with
              | some (l, s) => E.F.v1 (.sl sz (es ++ new) (.buf l)) fun v => E.F.s s fun s => k v s
              | none => .fail
            else .fail
          | .buf a =>
            match s.get a with
            | some (.tok n) =>
              bif Nat.beq n es.length && (new.flatMap AV.cells).all AV.isCell && lowAt s a new then
                match s.set a (.tok (es.length + new.length)) with
                | some s => E.F.v1 (.sl sz (es ++ new) (.buf a)) fun v => E.F.s s fun s => k v s
                | none => .fail
              else .fail
            | _ => .fail
          | _ => .fail
      else .fail
    | _ => .fail
  | _ => .fail
def idxV (sz : Nat) (x : AV) (i : AV) : Res :=
  match asNat i with
  | none => .fail
  | some i =>
    match x with
    | .sl z es _ =>
      bif Nat.beq z sz then
        match es[i]? with
        | some e => E.F.v1 (.vptr e.cells) fun v => k v s
        | none => .fail
      else .fail
    | .msl a off len _ z => bif Nat.beq z sz && Nat.blt i len then E.F.v1 (.ref a (off + i * sz)) fun v => k v s else .fail
    | _ => .fail

def idxArrV (sz len : Nat) (x : AV) (i : AV) : Res :=
  match asNat i with
  | none => .fail
  | some i =>
    bif Nat.blt i len then
      match x with
      | .vptr cs => E.F.v1 (.vptr (cs.drop (i * sz))) fun v => k v s
      | .ref a off => E.F.v1 (.ref a (off + i * sz)) fun v => k v s
      | _ => .fail
    else .fail

def callV (f : Nat) (args : List AV) : Res :=
  match E.call f args s with
  | .ok v s' => bif Nat.beq s'.depth s.depth then k v s' else .fail
  | .panic v s' => kp v s'
  | .fail => .fail

/-- The cells at an address. -/
def cellsOf (v : AV) : Option (List AV) :=
  match v with
  | .vptr cs => some cs
  | .ref a off =>
    match s.get a with
    | some (.cells cs) => some (cs.drop off)
    | _ => none
  | _ => none
def cellsAt (s : St) (n : Option Nat) (v : AV) : Option (List AV) := (cellsOf s v).map fun cs => cs.take (n.getD 1)
def sameO : Option (List AV) → Option (List AV) → Bool
  | some a, some b => AV.sameL a b
  | _, _ => false
/-- A call that leaves the cells at some addresses as they are. -/
def callCV (xs : List (Option Nat × AV)) (f : Nat) (args : List AV) : Res :=
  callV E s (fun v s' => bif xs.all fun x => sameO (cellsAt s x.1 x.2) (cellsAt s' x.1 x.2) then k v s' else .fail) kp f args
/-- A call that sees no mutable object. -/
def callPV (f : Nat) (args : List AV) : Res :=
  bif AV.reflessL args then
    match E.call f args { own := [], up := [], ro := [] } with
    | .ok v _ => bif v.refless then k v s else .fail
    | _ => .fail
  else .fail

def loadOp (n : Option Nat) (v : AV) : Res :=
  match v with
  | .vptr cs => loadV E s k n cs
  | .ref a off =>
    match s.get a with
    | some (.cells cs) => loadV E s k n (cs.drop off)
    | _ => .fail
  | _ => .fail

def fieldAddrV (off : Nat) (v : AV) : Res :=
  match v with
  | .vptr cs => E.F.v1 (.vptr (cs.drop off)) fun v => k v s
  | .ref a o => E.F.v1 (.ref a (o + off)) fun v => k v s
  | _ => .fail

def fieldV (off : Nat) (n : Option Nat) (v : AV) : Res :=
  match v with
  | .agg cs => loadV E s k n (cs.drop off)
  | _ => .fail

def idxStrV (v i : AV) : Res :=
  match v with
  | .str bs =>
    match asNat i with
    | some i =>
      match bs[i]? with
      | some b => E.F.v1 (.int .u8 b) fun v => k v s
      | none => .fail
    | none => .fail
  | _ => .fail

def idxAggV (sz len : Nat) (n : Option Nat) (v i : AV) : Res :=
  match v with
  | .agg cs =>
    match asNat i with
    | some i => bif Nat.blt i len then loadV E s k n (cs.drop (i * sz)) else .fail
    | none => .fail
  | _ => .fail

def extractV (i : Nat) (v : AV) : Res :=
  match v with
  | .tup vs => oV E s k vs[i]?
  | _ => .fail

def lenV (str : Bool) (v : AV) : Res :=
  match str, v with
  | true, .str bs => E.F.v1 (.int .i64 bs.length) fun v => k v s
  | false, .sl _ es _ => E.F.v1 (.int .i64 es.length) fun v => k v s
  | false, .msl _ _ n _ _ => E.F.v1 (.int .i64 n) fun v => k v s
  | _, _ => .fail

def copyV (d x : AV) : Res :=
  match d with
  | .msl a off len _ sz =>
    match elemsOf s x with
    | some (z, es) =>
      match s.get a with
      | some (.cells cs) =>
        bif Nat.beq z sz && Nat.ble (off + len * sz) cs.length && ((es.take (min es.length len)).flatMap AV.cells).all AV.isCell then
          E.F.l (splice cs off ((es.take (min es.length len)).flatMap AV.cells)) fun cs =>
          match s.set a (.cells cs) with
          | some s => E.F.v1 (.int .i64 (min es.length len : Nat)) fun v => E.F.s s fun s => k v s
          | none => .fail
        else .fail
      | _ => .fail
    | none => .fail
  | _ => .fail

def copyOp (q : Nat) (d x : AV) : Res :=
  match d with
  | .msl a off len cap sz => bif Nat.beq sz q then copyV E s k (.msl a off len cap sz) x else .fail
  | _ => .fail

def makeV (zero : List AV) (bytes : Nat) (l c : AV) : Res :=
  match asNat l with
  | some l =>
    match asNat c with
    | some c =>
      bif Nat.ble l c && Nat.ble (c * bytes) 1099511627776 then
        E.F.l (List.replicate c zero).flatten fun cs => E.F.v1 (.msl (.l s.own.length) 0 l c zero.length) fun v => E.F.s (s.new (.cells cs)) fun s => k v s
      else .fail
    | none => .fail
  | none => .fail

def storeOp (n : Nat) (a v : AV) : Res :=
  match a with
  | .ref a off => bif v.isVal && Nat.beq v.cells.length n then storeV E s k a off v.cells else .fail
  | _ => .fail

def convIntV (d : IntKind) (v : AV) : Res :=
  match v with
  | .int _ n => E.F.v1 (.int d (d.wrap n)) fun v => k v s
  | _ => .fail
def convIdV (v : AV) : Res :=
  match v with
  | .str bs => k (.str bs) s
  | _ => .fail
def strToBytesV (v : AV) : Res :=
  match v with
  | .str bs => E.F.v1 (.sl 1 (bs.map fun b => .int .u8 (b : Nat)) .any) fun v => k v s
  | _ => .fail
def bytesToStrV (v : AV) : Res :=
  match v with
  | .str _ => .fail
  | v =>
    match elemsOf s v with
    | some (_, es) => oV E s k ((natBytes es).map .str)
    | none => .fail
def pickV (c a b : AV) : Res :=
  match c with
  | .bool t => E.F.v0 (bif t then a else b) fun v => k v s
  | _ => .fail
def nilCheckV (v : AV) : Res :=
  match isNil v with
  | some false => E.F.v0 v fun v => k v s
  | _ => .fail
/-- A slice of the running frame's own is frozen. -/
def moveFV (v : AV) : Res :=
  match v with
  | .msl (.l i) off len cap sz =>
    match s.own[i]? with
    | some (.cells cs) =>
      let es := chunk sz len (cs.drop off)
      bif AV.reflessL es && Nat.ble (off + len * sz) cs.length && !Nat.beq sz 0 then
        E.F.v1 (.sl sz es (if len = cap then .exact else .any)) fun v => E.F.s { s with own := s.own.set i .gone } fun s => k v s
      else .fail
    | _ => .fail
  | _ => .fail
def buildSliceV (sz : Nat) (es : List AV) : Res :=
  bif AV.reflessL es && es.all (fun e => e.isVal && Nat.beq e.cells.length sz) then E.F.v1 (.sl sz es .exact) fun v => k v s else .fail
/-- A slice that is built in the frame, of elements that may refer to objects. -/
def buildSliceRV (sz : Nat) (es : List AV) : Res :=
  bif AV.lowL s.depth es && es.all (fun e => e.isVal && Nat.beq e.cells.length sz) then
    E.F.v1 (.sl sz es (.buf (.l s.own.length))) fun v => E.F.s (s.new (.tok es.length)) fun s => k v s
  else .fail
def callFV (f : AV) (args : List AV) : Res :=
  match f with
  | .fn f caps => E.F.l (args ++ caps) fun args => callV E s k kp f args
  | _ => .fail
def callFPV (f : AV) (args : List AV) : Res :=
  match f with
  | .fn f caps => E.F.l (args ++ caps) fun args => callPV E s k f args
  | _ => .fail
def callFCV (xs : List (Option Nat × AV)) (f : AV) (args : List AV) : Res :=
  match f with
  | .fn f caps => E.F.l (args ++ caps) fun args => callCV E s k kp xs f args
  | _ => .fail
def foldOp (f : AV → AV → Option AV) (xs : List AV) : Res :=
  match xs with
  | x :: xs => oV E s k (foldV f x xs)
  | [] => .fail

def appendOp (q bytes : Nat) (b : Option Loc) (x y : AV) : Res :=
  match b with
  | some b => appendV E s k q bytes b x y
  | none => .fail
/-- What is appended to holds no object that is read. -/
def appendSOp (q bytes : Nat) (b : Option Loc) (x y : AV) : Res :=
  match x with
  | .sl sz es g => appendOp E s k q bytes b (.sl sz es g) y
  | _ => .fail
def appendROp (q bytes : Nat) (b : Option Loc) (x y : AV) : Res :=
  match b with
  | some b => appendRV E s k q bytes b x y
  | none => .fail
/-- A part of an array. -/
def sliceAV (z n : Nat) (x : AV) (lo hi mx : Option AOpd) : Res :=
  match x with
  | .ref a off =>
    match bound E.glob fr lo 0, bound E.glob fr hi n, bound E.glob fr mx n with
    | some l, some h, some m =>
      bif Nat.ble l h && Nat.ble h m && Nat.ble m n then E.F.v1 (.msl a (if m = l then off else off + l * z) (h - l) (m - l) z) fun v => k v s else .fail
    | _, _, _ => .fail
  | _ => .fail
def makeMapV (b : Option Loc) : Res :=
  match b with
  | some b =>
    match s.newBy b (.map []) with
    | some (l, s) => E.F.v1 (.map l) fun v => E.F.s s fun s => k v s
    | none => .fail
  | none => .fail
def mapPutV (kd : KD) (m x v : AV) : Res :=
  match m with
  | .map a =>
    match s.get a with
    | some (.map es) =>
      bif isKey kd x && v.isVal && s.takes a [x, v] then
        match putKey x v es with
        | some es =>
          match s.set a (.map es) with
          | some s => E.F.s s fun s => k .dead s
          | none => .fail
        | none => .fail
      else .fail
    | _ => .fail
  | _ => .fail
/-- The entries of a map that is read. -/
def entriesOf : AV → Option (List (AV × AV))
  | .nilmap => some []
  | .map a =>
    match s.get a with
    | some (.map es) => some es
    | _ => none
  | _ => none
def lookupV (kd : KD) (zero : AV) (ok : Bool) (m x : AV) : Res :=
  bif isKey kd x then
    match entriesOf s m with
    | some es =>
      match findKey x es with
      | some (some v) => E.F.v1 (bif ok then .tup [v, .bool true] else v) fun v => k v s
      | some none => E.F.v1 (bif ok then .tup [zero, .bool false] else zero) fun v => k v s
      | none => .fail
    | none => .fail
  else .fail

def stepOp (op : AOp) : Res :=
  match op with
  | .move x => E.F.v0 (opnd E.glob fr x) fun v => k v s
  | .pick c a b => pickV E s k (opnd E.glob fr c) (opnd E.glob fr a) (opnd E.glob fr b)
  | .alloc zero => E.F.v1 (.ref (.l s.own.length) 0) fun v => E.F.s (s.new (.cells zero)) fun s => k v s
  | .boxRo x => bif (opnd E.glob fr x).isVal then E.F.v1 (.vptr ((opnd E.glob fr x).pub s.depth).cells) fun v => k v s else .fail
  | .boxMut x => bif (opnd E.glob fr x).isVal then E.F.l ((opnd E.glob fr x).pub s.depth).cells fun cs => E.F.v1 (.ref (.l s.own.length) 0) fun v => E.F.s (s.new (.cells cs)) fun s => k v s else .fail
  | .build zero parts => oV E s k ((fillParts E.glob s.depth fr zero parts).map .agg)
  | .buildSlice sz parts => buildSliceV E s k sz (parts.map (opnd E.glob fr))
  | .moveF x => moveFV E s k (opnd E.glob fr x)
  | .load n a => loadOp E s k n (opnd E.glob fr a)
  | .store n a v => storeOp E s k n (opnd E.glob fr a) ((opnd E.glob fr v).pub s.depth)
  | .nilCheck x => nilCheckV E s k (opnd E.glob fr x)
  | .bin op x y => oV E s k (binV op (opnd E.glob fr x) (opnd E.glob fr y))
  | .eq neg e x y => oV E s k ((eqV e (opnd E.glob fr x) (opnd E.glob fr y)).map fun b => .bool (bif neg then !b else b))
  | .un op x => oV E s k (unV op (opnd E.glob fr x))
  | .convInt d x => convIntV E s k d (opnd E.glob fr x)
  | .convId x => convIdV s k (opnd E.glob fr x)
  | .bytesToStr x => bytesToStrV E s k (opnd E.glob fr x)
  | .strToBytes x => strToBytesV E s k (opnd E.glob fr x)
  | .mkIface t x => E.F.v1 (.iface t ((opnd E.glob fr x).pub s.depth)) fun v => k v s
  | .mkFunc f caps => E.F.v1 (.fn f (caps.map fun x => (opnd E.glob fr x).pub s.depth)) fun v => k v s
  | .makeSlice zero bytes l c => makeV E s k zero bytes (opnd E.glob fr l) (opnd E.glob fr c)
  | .subStr x lo hi => subStrV E fr s k (opnd E.glob fr x) lo hi
  | .slice z x lo hi mx => sliceV E fr s k z (opnd E.glob fr x) lo hi mx
  | .fieldAddr off a => fieldAddrV E s k off (opnd E.glob fr a)
  | .field off n x => fieldV E s k off n (opnd E.glob fr x)
  | .idxSl sz x i => idxV E s k sz (opnd E.glob fr x) (opnd E.glob fr i)
  | .idxArr sz len x i => idxArrV E s k sz len (opnd E.glob fr x) (opnd E.glob fr i)
  | .idxStr x i => idxStrV E s k (opnd E.glob fr x) (opnd E.glob fr i)
  | .idxAgg sz len n x i => idxAggV E s k sz len n (opnd E.glob fr x) (opnd E.glob fr i)
  | .extract x i => extractV E s k i (opnd E.glob fr x)
  | .call f args => E.F.l (args.map fun x => (opnd E.glob fr x).pub s.depth) fun args => callV E s k kp f args
  | .callV f args => callFV E s k kp (opnd E.glob fr f) (args.map fun x => (opnd E.glob fr x).pub s.depth)
  | .callP f args => E.F.l (args.map fun x => (opnd E.glob fr x).pub s.depth) fun args => callPV E s k f args
  | .callVP f args => callFPV E s k (opnd E.glob fr f) (args.map fun x => (opnd E.glob fr x).pub s.depth)
  | .len b x => lenV E s k b (opnd E.glob fr x)
  | .append q bytes b x y => appendOp E s k q bytes (atLoc E.glob fr b) (opnd E.glob fr x) (opnd E.glob fr y)
  | .copy q d x => copyOp E s k q (opnd E.glob fr d) (opnd E.glob fr x)
  | .min xs => foldOp E s k min2 (xs.map fun x => (opnd E.glob fr x).pub s.depth)
  | .max xs => foldOp E s k max2 (xs.map fun x => (opnd E.glob fr x).pub s.depth)
  | .makeMap b => makeMapV E s k (atLoc E.glob fr b)
  | .mapPut kd m x v => mapPutV E s k kd (opnd E.glob fr m) ((opnd E.glob fr x).pub s.depth) ((opnd E.glob fr v).pub s.depth)
  | .lookup kd zero ok m x => lookupV E s k kd zero ok (opnd E.glob fr m) ((opnd E.glob fr x).pub s.depth)
  | .callC ks f args => E.F.l (args.map fun x => (opnd E.glob fr x).pub s.depth) fun args => callCV E s k kp (ks.map fun x => (x.1, opnd E.glob fr x.2)) f args
  | .callVC ks f args => callFCV E s k kp (ks.map fun x => (x.1, opnd E.glob fr x.2)) (opnd E.glob fr f) (args.map fun x => (opnd E.glob fr x).pub s.depth)
  | .nilI neg x => oV E s k (nilIV neg (opnd E.glob fr x))
  | .sliceA z n x lo hi mx => sliceAV E fr s k z n (opnd E.glob fr x) lo hi mx
  | .appendR q bytes b x y => appendROp E s k q bytes (atLoc E.glob fr b) (opnd E.glob fr x) (opnd E.glob fr y)
  | .buildSliceR sz parts => buildSliceRV E s k sz (parts.map fun x => (opnd E.glob fr x).pub s.depth)
  | .appendS q bytes b x y => appendSOp E s k q bytes (atLoc E.glob fr b) (opnd E.glob fr x) (opnd E.glob fr y)
  | .no => .fail
end

def wantedK (g : Option (Nat × Bool)) (fr : Tr) (k : Bool → Res) : Res :=
  match g with
  | none => k true
  | some (t, want) =>
    match fr.get t with
    | .bool b => k (b == want)
    | .tup _ => k false
    | _ => .fail

def runOps (E : Env) : List AOper → Tr → St → (Tr → St → Res) → (AV → Tr → St → Res) → Res
  | [], fr, s, fin, _ => fin fr s
  | o :: os, fr, s, fin, pan =>
    wantedK o.guard fr fun w =>
      bif w then stepOp E fr.get s (fun v s => putK fr o.dst v fun fr => runOps E os fr s fin pan) (fun v s => pan v fr s) o.op
      else putK fr o.dst (.tup []) fun fr => runOps E os fr s fin pan

def exec (E : Env) : ACode → SS
  | .skip, fr, s, k => k .norm fr s
  | .region none ops, fr, s, k => runOps E ops fr s (fun fr s => k .norm fr s) (fun _ _ _ => .fail)
  | .region (some chk) ops, fr, s, k =>
    bif chk.all (apartB E.glob fr.get) then runOps E ops fr s (fun fr s => k .norm fr s) (fun _ _ _ => .fail) else .fail
  | .seq a b, fr, s, k => exec E a fr s (seqK (exec E b) k)
  | .mask m a, fr, s, k => Tr.maskK m (fun fr => exec E a fr s k) fr
  | .cond c a b, fr, s, k =>
    match opnd E.glob fr.get c with
    | .bool t => bif t then exec E a fr s k else exec E b fr s k
    | _ => .fail
  | .block id c, fr, s, k => exec E c fr s (blockK id k)
  | .loop keep c, fr, s, k => Tr.maskK keep (fun fr => E.loop (exec E c) keep fr s k) fr
  | .exit id, fr, s, k => k (.exit id) fr s
  | .scope c, fr, s, k => exec E c fr s k
  | .ret, fr, s, k => k .ret fr s

def freezeOwn (s : St) (i off len cap sz : Nat) : Option AV :=
  match s.own[i]? with
  | some (.cells cs) => let es := chunk sz len (cs.drop off); if AV.reflessL es && Nat.ble (off + len * sz) cs.length && !Nat.beq sz 0 then some (.sl sz es (if len = cap then .exact else .any)) else none
  | _ => none

/-- A result as the caller may have it: slices that the frame has made are frozen. -/
def freeze1 (s : St) : AV → Option AV
  | .msl (.l i) off len cap sz => freezeOwn s i off len cap sz
  | .msl (.g d i) off len cap sz => if d = s.depth then freezeOwn s i off len cap sz else if d < s.depth then some (.msl (.g d i) off len cap sz) else none
  | .ref (.g d i) off => if d < s.depth then some (.ref (.g d i) off) else none
  | .sl sz es (.buf (.l _)) => if AV.reflessL es then some (.sl sz es .any) else none
  | .sl sz es (.buf (.g d i)) => if d < s.depth then some (.sl sz es (.buf (.g d i))) else if AV.reflessL es then some (.sl sz es .any) else none
  | .map (.g d i) => if d < s.depth then some (.map (.g d i)) else none
  | v => if v.refless then some v else none

def mapO {α β : Type} (f : α → Option β) : List α → Option (List β)
  | [] => some []
  | x :: xs => (f x).bind fun y => (mapO f xs).map fun ys => y :: ys

def freeze (s : St) : AV → Option AV
  | .agg cs => (mapO (freeze1 s) cs).map .agg
  | v => freeze1 s v

def resV (fr : Tr) (s : St) : ARes → Option AV
  | .t n => some (fr.get n)
  | .cell a n =>
    match fr.get a with
    | .ref a off =>
      match s.get a, n with
      | some (.cells cs), none => cs[off]?
      | some (.cells cs), some n => if Nat.ble (off + n) cs.length then some (.agg ((cs.drop off).take n)) else none
      | _, _ => none
    | _ => none

def tupV : List AV → AV
  | [v] => v
  | vs => .tup vs

def finish (F : Force) (fn : AFn) (fr : Tr) (s : St) : Res :=
  match mapO (resV fr s) fn.results with
  | some vs =>
    if fn.keep then F.l (vs.map (AV.pub s.depth)) fun vs => .ok (tupV vs) s
    else
      match mapO (freeze s) vs with
      | some vs =>
        match s.up with
        | own :: up => F.l vs fun vs => F.s { own, up, ro := s.ro } fun s => .ok (tupV vs) s
        | [] => .fail
      | none => .fail
  | none => .fail

/-- Behind a function's body. -/
def finK (F : Force) (fn : AFn) : KK := fun x fr s =>
  match x with
  | .norm => finish F fn fr s
  | .ret => finish F fn fr s
  | _ => .fail

def setArgs : List AV → Nat → Tr → (Tr → Res) → Res
  | [], _, fr, k => k fr
  | v :: vs, i, fr, k => fr.setK 12 i v fun fr => setArgs vs (i + 1) fr k

def call (F : Force) (T : Nat → Option AFn) (G : Nat → AV) (X : Nat → List AV → St → Res) : Nat → Nat → List AV → St → Res
  | 0, _, _, _ => .fail
  | n + 1, f, args, s =>
    match T f with
    | none => X f args s
    | some fn =>
      bif Nat.beq args.length fn.np then
        setArgs args 0 .e fun fr => exec { F, glob := G, call := call F T G X n, loop := fun step keep => loopIter step keep n } fn.body fr
          (if fn.keep then s else { own := [], up := s.own :: s.up, ro := s.ro })
          (finK F fn)
      else .fail

theorem Loc.same_eq {a b : Loc} : a.same b = true ↔ a = b := by
  cases a <;> cases b <;> simp [Loc.same]
theorem Gr.same_eq {a b : Gr} : a.same b = true ↔ a = b := by
  cases a <;> cases b <;> simp [Gr.same, Loc.same_eq]
mutual
theorem AV.same_eq : ∀ (a b : AV), a.same b = true ↔ a = b
  | .dead, b => by cases b <;> simp [AV.same]
  | .nilp, b => by cases b <;> simp [AV.same]
  | .nilf, b => by cases b <;> simp [AV.same]
  | .nilmap, b => by cases b <;> simp [AV.same]
  | .nili, b => by cases b <;> simp [AV.same]
  | .bool a, b => by cases b <;> simp [AV.same]
  | .int k a, b => by cases b <;> simp [AV.same]
  | .str a, b => by cases b <;> simp [AV.same]
  | .sl z a g, b => by cases b <;> simp [AV.same, Gr.same_eq, AV.sameL_eq a, and_assoc]; intro _; exact And.comm
  | .msl a x y z q, b => by cases b <;> simp [AV.same, Loc.same_eq, and_assoc]
  | .ref a x, b => by cases b <;> simp [AV.same, Loc.same_eq]
  | .vptr a, b => by cases b <;> simp [AV.same, AV.sameL_eq a]
  | .fn f a, b => by cases b <;> simp [AV.same, AV.sameL_eq a]
  | .map a, b => by cases b <;> simp [AV.same, Loc.same_eq]
  | .iface t v, b => by cases b <;> simp [AV.same, AV.same_eq v]
  | .agg a, b => by cases b <;> simp [AV.same, AV.sameL_eq a]
  | .tup a, b => by cases b <;> simp [AV.same, AV.sameL_eq a]
theorem AV.sameL_eq : ∀ (a b : List AV), AV.sameL a b = true ↔ a = b
  | [], b => by cases b <;> simp [AV.sameL]
  | x :: xs, b => by cases b <;> simp [AV.sameL, AV.same_eq x, AV.sameL_eq xs]
end
theorem sameO_eq {a b : Option (List AV)} : sameO a b = true ↔ ∃ l, a = some l ∧ b = some l := by
  cases a <;> cases b <;> simp only [sameO, AV.sameL_eq, Bool.false_eq_true, Option.some.injEq, reduceCtorEq, false_and, and_false, exists_false, exists_eq_left']
  exact eq_comm

/-! ### Reckoned out -/
def forceNat (n : Nat) (k : Nat → Res) : Res := Nat.casesOn n (k 0) (fun p => k (p + 1))
def forceInt (n : Int) (k : Int → Res) : Res :=
  match n with
  | .ofNat m => forceNat m fun m => k (.ofNat m)
  | .negSucc m => forceNat m fun m => k (.negSucc m)
def forceNats : List Nat → (List Nat → Res) → Res
  | [], k => k []
  | x :: xs, k => forceNat x fun x => forceNats xs fun xs => k (x :: xs)
def force0 (v : AV) (k : AV → Res) : Res :=
  match v with
  | .dead => k .dead
  | .bool b => match b with
    | true => k (.bool true)
    | false => k (.bool false)
  | .int i n => forceInt n fun n => k (.int i n)
  | .str s => k (.str s)
  | .sl sz es g => k (.sl sz es g)
  | .msl a off len cap sz => k (.msl a off len cap sz)
  | .ref a off => k (.ref a off)
  | .vptr cs => k (.vptr cs)
  | .nilp => k .nilp
  | .fn f caps => k (.fn f caps)
  | .nilf => k .nilf
  | .map a => k (.map a)
  | .nilmap => k .nilmap
  | .iface t v => k (.iface t v)
  | .nili => k .nili
  | .agg cs => k (.agg cs)
  | .tup vs => k (.tup vs)
def forceL : List AV → (List AV → Res) → Res
  | [], k => k []
  | x :: xs, k => force0 x fun x => forceL xs fun xs => k (x :: xs)
def forceLoc (a : Loc) (k : Loc → Res) : Res :=
  match a with
  | .l i => forceNat i fun i => k (.l i)
  | .g d i => forceNat d fun d => forceNat i fun i => k (.g d i)
def forceGr (g : Gr) (k : Gr → Res) : Res :=
  match g with
  | .nil => k .nil
  | .exact => k .exact
  | .any => k .any
  | .buf a => forceLoc a fun a => k (.buf a)
def force1 (v : AV) (k : AV → Res) : Res :=
  match v with
  | .dead => k .dead
  | .bool b => match b with
    | true => k (.bool true)
    | false => k (.bool false)
  | .int i n => forceInt n fun n => k (.int i n)
  | .str s => forceNats s fun s => k (.str s)
  | .sl sz es g => forceL es fun es => forceGr g fun g => k (.sl sz es g)
  | .msl a off len cap sz => forceLoc a fun a => forceNat off fun off => forceNat len fun len => forceNat cap fun cap => k (.msl a off len cap sz)
  | .ref a off => forceLoc a fun a => forceNat off fun off => k (.ref a off)
  | .vptr cs => forceL cs fun cs => k (.vptr cs)
  | .nilp => k .nilp
  | .fn f caps => forceL caps fun caps => k (.fn f caps)
  | .nilf => k .nilf
  | .map a => forceLoc a fun a => k (.map a)
  | .nilmap => k .nilmap
  | .iface t v => force0 v fun v => k (.iface t v)
  | .nili => k .nili
  | .agg cs => forceL cs fun cs => k (.agg cs)
  | .tup vs => forceL vs fun vs => k (.tup vs)
def forceObj (o : AObj) (k : AObj → Res) : Res :=
  match o with
  | .cells cs => k (.cells cs)
  | .tok n => forceNat n fun n => k (.tok n)
  | .map es => k (.map es)
  | .gone => k .gone
def forceObjs : List AObj → (List AObj → Res) → Res
  | [], k => k []
  | x :: xs, k => forceObj x fun x => forceObjs xs fun xs => k (x :: xs)
def forceFrs : List (List AObj) → (List (List AObj) → Res) → Res
  | [], k => k []
  | x :: xs, k => forceObjs x fun x => forceFrs xs fun xs => k (x :: xs)
def forceSt (s : St) (k : St → Res) : Res := forceObjs s.own fun own => forceFrs s.up fun up => forceFrs s.ro fun ro => k { own, up, ro }
def Force.full : Force := { v0 := force0, v1 := force1, l := forceL, s := forceSt }
theorem forceNat_eq (n : Nat) (k : Nat → Res) : forceNat n k = k n := by cases n <;> rfl
theorem forceInt_eq (n : Int) (k : Int → Res) : forceInt n k = k n := by cases n <;> simp [forceInt, forceNat_eq]
theorem forceNats_eq : ∀ (l : List Nat) (k : List Nat → Res), forceNats l k = k l
  | [], _ => rfl
  | x :: xs, k => by simp [forceNats, forceNat_eq, forceNats_eq xs]
theorem force0_eq (v : AV) (k : AV → Res) : force0 v k = k v := by
  cases v <;> simp only [force0, forceInt_eq]
  split <;> rfl
theorem forceL_eq : ∀ (l : List AV) (k : List AV → Res), forceL l k = k l
  | [], _ => rfl
  | x :: xs, k => by simp [forceL, force0_eq, forceL_eq xs]
theorem forceLoc_eq (a : Loc) (k : Loc → Res) : forceLoc a k = k a := by cases a <;> simp [forceLoc, forceNat_eq]
theorem forceGr_eq (a : Gr) (k : Gr → Res) : forceGr a k = k a := by cases a <;> simp [forceGr, forceLoc_eq]
theorem force1_eq (v : AV) (k : AV → Res) : force1 v k = k v := by
  cases v <;> simp only [force1, forceInt_eq, forceNats_eq, forceL_eq, forceLoc_eq, forceGr_eq, forceNat_eq, force0_eq]
  split <;> rfl
theorem forceObj_eq (o : AObj) (k : AObj → Res) : forceObj o k = k o := by cases o <;> simp [forceObj, forceNat_eq]
theorem forceObjs_eq : ∀ (l : List AObj) (k : List AObj → Res), forceObjs l k = k l
  | [], _ => rfl
  | x :: xs, k => by simp [forceObjs, forceObj_eq, forceObjs_eq xs]
theorem forceFrs_eq : ∀ (l : List (List AObj)) (k : List (List AObj) → Res), forceFrs l k = k l
  | [], _ => rfl
  | x :: xs, k => by simp [forceFrs, forceObjs_eq, forceFrs_eq xs]
theorem forceSt_eq (s : St) (k : St → Res) : forceSt s k = k s := by simp [forceSt, forceObjs_eq, forceFrs_eq]
theorem Force.full_eq : Force.full = Force.not := by
  unfold Force.full Force.not
  congr <;> funext v k
  · exact force0_eq v k
  · exact force1_eq v k
  · exact forceL_eq v k
  · exact forceSt_eq v k
/-- A table of functions. -/
def lookFn (f : Nat) : List (Nat × AFn) → Option AFn
  | [] => none
  | (g, c) :: l => bif Nat.beq f g then some c else lookFn f l
theorem lookFn_mem {f : Nat} {c : AFn} : ∀ {l : List (Nat × AFn)}, lookFn f l = some c → (f, c) ∈ l
  | [], h => by cases h
  | (g, d) :: l, h => by
    simp only [lookFn] at h
    cases hb : Nat.beq f g with
    | true =>
      rw [hb] at h
      have := Nat.eq_of_beq_eq_true hb
      subst this
      obtain rfl := Option.some.inj h
      exact List.mem_cons_self ..
    | false =>
      rw [hb] at h
      exact List.mem_cons_of_mem _ (lookFn_mem h)
end Go.Ab
end
section
/- What an abstract value and the stack of abstract objects say about the machine's values and memory. -/
namespace Go.Ab

/-- How the abstract side lies in memory: the cells that no longer change, the block of each object, the number of objects of each frame, and where a growing slice lay when it had so many elements (its address, its capacity, its elements' size). -/
structure Kap where
  F : Addr → Option Value
  n : Nat → Nat
  loc : Nat → Nat → Nat
  tk : Nat → Nat → Nat → Option (Addr × Nat × Nat)

def GrOK (κ : Kap) (D : Nat) (sz : Nat) : Gr → Nat → Addr → Nat → Prop
  | .nil, _, _, _ => False
  | .exact, n, _, cap => cap = n
  | .any, _, _, _ => True
  | .buf (.g d i), n, a, cap => d < D ∧ i < κ.n d ∧ κ.tk d i n = some (a, cap, sz)
  | .buf (.l _), _, _, _ => False

/-- A slice's elements hold no reference, or it grows in a frame that outlives what they refer to. -/
def SlOK (g : Gr) (es : List AV) : Prop := (∀ e, e ∈ es → e.refless = true) ∨ ∃ d j, g = .buf (.g d j) ∧ ∀ e, e ∈ es → e.low d = true
inductive VR (κ : Kap) (D : Nat) : AV → Value → Prop
  | dead (x : Value) : VR κ D .dead x
  | bool (b : Bool) : VR κ D (.bool b) (.bool b)
  | int (k : IntKind) (n : Int) : VR κ D (.int k n) (.int k n)
  | str (bs : List Nat) (s : ByteArray) (h : s.data.toList.map UInt8.toNat = bs) : VR κ D (.str bs) (.string s)
  | slNil (sz : Nat) : VR κ D (.sl sz [] .nil) (.slice none 0 0)
  | sl (sz : Nat) (es : List AV) (g : Gr) (a : Addr) (cap : Nat) (vals : Nat → Value) (hg : GrOK κ D sz g es.length a cap) (hn : es.length ≤ cap) (hs : es ≠ [] → a.spot = none)
      (hsz : ∀ e, e ∈ es → e.cells.length = sz) (hr : SlOK g es)
      (hF : ∀ j, j < (es.flatMap AV.cells).length → κ.F (a.add j) = some (vals j))
      (hv : ∀ (j : Nat) (c : AV), (es.flatMap AV.cells)[j]? = some c → VR κ D c (vals j)) : VR κ D (.sl sz es g) (.slice (some a) es.length cap)
  | msl (d i off len cap sz : Nat) (hd : d < D) (hi : i < κ.n d) (hl : len ≤ cap) : VR κ D (.msl (.g d i) off len cap sz) (.slice (some ⟨κ.loc d i, off, none⟩) len cap)
  | ref (d i off : Nat) (hd : d < D) (hi : i < κ.n d) : VR κ D (.ref (.g d i) off) (.pointer (some ⟨κ.loc d i, off, none⟩))
  | vptr (cs : List AV) (a : Addr) (vals : Nat → Value) (hs : a.spot = none) (hF : ∀ j, j < cs.length → κ.F (a.add j) = some (vals j))
      (hv : ∀ (j : Nat) (c : AV), cs[j]? = some c → VR κ D c (vals j)) : VR κ D (.vptr cs) (.pointer (some a))
  | nilp : VR κ D .nilp (.pointer none)
  | fn (f : Nat) (cs : List AV) (xs : List Value) (hl : xs.length = cs.length) (hv : ∀ (j : Nat) (c : AV) (x : Value), cs[j]? = some c → xs[j]? = some x → VR κ D c x) : VR κ D (.fn f cs) (.func (.func f) #[] xs.toArray)
  | nilf : VR κ D .nilf .nilFunc
  | nilmap : VR κ D .nilmap (.map none)
  | map (d i : Nat) (hd : d < D) (hi : i < κ.n d) : VR κ D (.map (.g d i)) (.map (some (κ.loc d i)))
  | iface (t : Nat) (v : AV) (x : Value) (h : VR κ D v x) : VR κ D (.iface t v) (.iface t x)
  | nili : VR κ D .nili .nilIface
  | agg (cs : List AV) (xs : List Value) (hl : xs.length = cs.length) (hv : ∀ (j : Nat) (c : AV) (x : Value), cs[j]? = some c → xs[j]? = some x → VR κ D c x) : VR κ D (.agg cs) (.agg xs.toArray)
  | tup (cs : List AV) (xs : List Value) (hl : xs.length = cs.length) (hv : ∀ (j : Nat) (c : AV) (x : Value), cs[j]? = some c → xs[j]? = some x → VR κ D c x) : VR κ D (.tup cs) (.tuple xs.toArray)

/-- Lists of values, one by one. -/
def VRs (κ : Kap) (D : Nat) (cs : List AV) (xs : List Value) : Prop := xs.length = cs.length ∧ ∀ (j : Nat) (c : AV) (x : Value), cs[j]? = some c → xs[j]? = some x → VR κ D c x

/-- The second lays what the first lays, for the frames below D. -/
structure KLe (κ κ' : Kap) (D : Nat) : Prop where
  F : ∀ a v, κ.F a = some v → κ'.F a = some v
  n : ∀ d, d < D → κ.n d ≤ κ'.n d
  loc : ∀ d i, d < D → i < κ.n d → κ'.loc d i = κ.loc d i
  tk : ∀ d i n x, d < D → i < κ.n d → κ.tk d i n = some x → κ'.tk d i n = some x

theorem KLe.refl (κ : Kap) (D : Nat) : KLe κ κ D := ⟨fun _ _ h => h, fun _ _ => Nat.le_refl _, fun _ _ _ _ => rfl, fun _ _ _ _ _ _ h => h⟩
theorem KLe.trans {κ κ' κ'' : Kap} {D : Nat} (h : KLe κ κ' D) (k : KLe κ' κ'' D) : KLe κ κ'' D :=
  ⟨fun a v e => k.F a v (h.F a v e), fun d hd => Nat.le_trans (h.n d hd) (k.n d hd),
   fun d i hd hi => (k.loc d i hd (Nat.lt_of_lt_of_le hi (h.n d hd))).trans (h.loc d i hd hi),
   fun d i n x hd hi e => k.tk d i n x hd (Nat.lt_of_lt_of_le hi (h.n d hd)) (h.tk d i n x hd hi e)⟩
theorem KLe.low {κ κ' : Kap} {D D' : Nat} (h : KLe κ κ' D) (hD : D' ≤ D) : KLe κ κ' D' :=
  ⟨h.F, fun d hd => h.n d (Nat.lt_of_lt_of_le hd hD), fun d i hd => h.loc d i (Nat.lt_of_lt_of_le hd hD), fun d i n x hd => h.tk d i n x (Nat.lt_of_lt_of_le hd hD)⟩

theorem GrOK.mono {κ κ' : Kap} {D sz n cap : Nat} {g : Gr} {a : Addr} (h : GrOK κ D sz g n a cap) (k : KLe κ κ' D) : GrOK κ' D sz g n a cap := by
  unfold GrOK at *
  split at h <;> simp_all
  obtain ⟨h1, h2, h3⟩ := h
  exact ⟨Nat.lt_of_lt_of_le h2 (k.n _ h1), k.tk _ _ _ _ h1 h2 h3⟩

theorem VR.mono {κ κ' : Kap} {D : Nat} {v : AV} {x : Value} (h : VR κ D v x) (k : KLe κ κ' D) : VR κ' D v x := by
  induction h with
  | dead x => exact .dead x
  | bool b => exact .bool b
  | int k n => exact .int k n
  | str bs s h => exact .str bs s h
  | slNil sz => exact .slNil sz
  | sl sz es g a cap vals hg hn hs hsz hr hF hv ih => exact .sl sz es g a cap vals (hg.mono k) hn hs hsz hr (fun j hj => k.F _ _ (hF j hj)) ih
  | msl d i off len cap sz hd hi hl => rw [← k.loc d i hd hi]; exact .msl d i off len cap sz hd (Nat.lt_of_lt_of_le hi (k.n d hd)) hl
  | ref d i off hd hi => rw [← k.loc d i hd hi]; exact .ref d i off hd (Nat.lt_of_lt_of_le hi (k.n d hd))
  | vptr cs a vals hs hF hv ih => exact .vptr cs a vals hs (fun j hj => k.F _ _ (hF j hj)) ih
  | nilp => exact .nilp
  | fn f cs xs hl hv ih => exact .fn f cs xs hl ih
  | nilf => exact .nilf
  | nilmap => exact .nilmap
  | map d i hd hi => rw [← k.loc d i hd hi]; exact .map d i hd (Nat.lt_of_lt_of_le hi (k.n d hd))
  | iface t v x h ih => exact .iface t v x ih
  | nili => exact .nili
  | agg cs xs hl hv ih => exact .agg cs xs hl ih
  | tup cs xs hl hv ih => exact .tup cs xs hl ih

theorem VR.up {κ : Kap} {D D' : Nat} {v : AV} {x : Value} (h : VR κ D v x) (hD : D ≤ D') : VR κ D' v x := by
  induction h with
  | dead x => exact .dead x
  | bool b => exact .bool b
  | int k n => exact .int k n
  | str bs s h => exact .str bs s h
  | slNil sz => exact .slNil sz
  | sl sz es g a cap vals hg hn hs hsz hr hF hv ih =>
    refine .sl sz es g a cap vals ?_ hn hs hsz hr hF ih
    unfold GrOK at *
    split at hg <;> simp_all
    exact Nat.lt_of_lt_of_le hg.1 hD
  | msl d i off len cap sz hd hi hl => exact .msl d i off len cap sz (Nat.lt_of_lt_of_le hd hD) hi hl
  | ref d i off hd hi => exact .ref d i off (Nat.lt_of_lt_of_le hd hD) hi
  | vptr cs a vals hs hF hv ih => exact .vptr cs a vals hs hF ih
  | nilp => exact .nilp
  | fn f cs xs hl hv ih => exact .fn f cs xs hl ih
  | nilf => exact .nilf
  | nilmap => exact .nilmap
  | map d i hd hi => exact .map d i (Nat.lt_of_lt_of_le hd hD) hi
  | iface t v x h ih => exact .iface t v x ih
  | nili => exact .nili
  | agg cs xs hl hv ih => exact .agg cs xs hl ih
  | tup cs xs hl hv ih => exact .tup cs xs hl ih

theorem reflessL_get {cs : List AV} (h : AV.reflessL cs = true) {j : Nat} {c : AV} (hc : cs[j]? = some c) : c.refless = true := by
  induction cs generalizing j with
  | nil => simp at hc
  | cons v vs ih =>
    simp only [AV.reflessL, Bool.and_eq_true] at h
    cases j with
    | zero => simp at hc; exact hc ▸ h.1
    | succ j => exact ih h.2 (by simpa using hc)
theorem reflessL_iff {cs : List AV} : AV.reflessL cs = true ↔ ∀ c, c ∈ cs → c.refless = true := by
  induction cs with
  | nil => simp [AV.reflessL]
  | cons v vs ih => simp [AV.reflessL, ih]
theorem refless_cells {e : AV} (h : e.refless = true) {c : AV} (hc : c ∈ e.cells) : c.refless = true := by
  unfold AV.cells at hc
  split at hc
  · exact reflessL_iff.1 (by simpa [AV.refless] using h) c hc
  · simp at hc; exact hc ▸ h

/-- A value without references hangs on the frozen cells alone. -/
theorem VR.refless {κ : Kap} {D : Nat} {v : AV} {x : Value} (h : VR κ D v x) (hr : v.refless = true) {κ' : Kap} (D' : Nat) (hF : ∀ a v, κ.F a = some v → κ'.F a = some v) : VR κ' D' v x := by
  induction h with
  | dead x => exact .dead x
  | bool b => exact .bool b
  | int k n => exact .int k n
  | str bs s h => exact .str bs s h
  | slNil sz => exact .slNil sz
  | sl sz es g a cap vals hg hn hs hsz hr' hFF hv ih =>
    refine .sl sz es g a cap vals ?_ hn hs hsz hr' (fun j hj => hF _ _ (hFF j hj)) (fun j c hc => ih j c hc ?_)
    · cases g <;> simp_all [AV.refless, GrOK]
    · obtain ⟨e, he, hce⟩ := List.mem_flatMap.1 (List.mem_of_getElem? hc)
      rcases hr' with hr' | ⟨d, j, rfl, _⟩
      · exact refless_cells (hr' e he) hce
      · simp [AV.refless] at hr
  | msl d i off len cap sz hd hi hl => simp [AV.refless] at hr
  | ref d i off hd hi => simp [AV.refless] at hr
  | vptr cs a vals hs hFF hv ih => exact .vptr cs a vals hs (fun j hj => hF _ _ (hFF j hj)) (fun j c hc => ih j c hc (reflessL_get (by simpa [AV.refless] using hr) hc))
  | nilp => exact .nilp
  | fn f cs xs hl hv ih => exact .fn f cs xs hl (fun j c x hc hx => ih j c x hc hx (reflessL_get (by simpa [AV.refless] using hr) hc))
  | nilf => exact .nilf
  | nilmap => exact .nilmap
  | map d i hd hi => simp [AV.refless] at hr
  | iface t v x h ih => exact .iface t v x (ih (by simpa [AV.refless] using hr))
  | nili => exact .nili
  | agg cs xs hl hv ih => exact .agg cs xs hl (fun j c x hc hx => ih j c x hc hx (reflessL_get (by simpa [AV.refless] using hr) hc))
  | tup cs xs hl hv ih => exact .tup cs xs hl (fun j c x hc hx => ih j c x hc hx (reflessL_get (by simpa [AV.refless] using hr) hc))

theorem refless_pub {v : AV} (h : v.refless = true) (d : Nat) : v.pub d = v := by
  cases v <;> simp_all [AV.refless, AV.pub]
  rename_i g
  cases g <;> simp_all [AV.refless, Gr.pub]

theorem lowL_get {d : Nat} {cs : List AV} (h : AV.lowL d cs = true) {j : Nat} {c : AV} (hc : cs[j]? = some c) : c.low d = true := by
  induction cs generalizing j with
  | nil => simp at hc
  | cons v vs ih =>
    simp only [AV.lowL, Bool.and_eq_true] at h
    cases j with
    | zero => simp at hc; exact hc ▸ h.1
    | succ j => exact ih h.2 (by simpa using hc)
theorem Loc.low_mono {d d' : Nat} (h : d ≤ d') {a : Loc} (ha : a.low d = true) : a.low d' = true := by
  cases a with
  | l i => cases ha
  | g e i => exact Nat.ble_eq_true_of_le (Nat.le_trans (Nat.le_of_ble_eq_true ha) h)
mutual
theorem AV.low_mono {d d' : Nat} (h : d ≤ d') : ∀ (v : AV), v.low d = true → v.low d' = true
  | .dead, _ | .bool _, _ | .int _ _, _ | .str _, _ | .nilp, _ | .nilf, _ | .nilmap, _ | .nili, _ => rfl
  | .sl sz es g, hv => by
    cases g with
    | buf a => exact Loc.low_mono h hv
    | nil => rfl
    | exact => rfl
    | any => rfl
  | .msl a _ _ _ _, hv => Loc.low_mono h hv
  | .ref a _, hv => Loc.low_mono h hv
  | .map a, hv => Loc.low_mono h hv
  | .vptr cs, hv => AV.lowL_mono h cs hv
  | .fn _ cs, hv => AV.lowL_mono h cs hv
  | .agg cs, hv => AV.lowL_mono h cs hv
  | .tup cs, hv => AV.lowL_mono h cs hv
  | .iface _ v, hv => AV.low_mono h v hv
theorem AV.lowL_mono {d d' : Nat} (h : d ≤ d') : ∀ (vs : List AV), AV.lowL d vs = true → AV.lowL d' vs = true
  | [], _ => rfl
  | v :: vs, hv => by
    simp only [AV.lowL, Bool.and_eq_true] at hv ⊢
    exact ⟨AV.low_mono h v hv.1, AV.lowL_mono h vs hv.2⟩
end
mutual
theorem AV.refless_low (d : Nat) : ∀ (v : AV), v.refless = true → v.low d = true
  | .dead, _ | .bool _, _ | .int _ _, _ | .str _, _ | .nilp, _ | .nilf, _ | .nilmap, _ | .nili, _ => rfl
  | .sl sz es g, hv => by
    cases g with
    | buf a => simp [AV.refless] at hv
    | nil => rfl
    | exact => rfl
    | any => rfl
  | .msl a _ _ _ _, hv => by simp [AV.refless] at hv
  | .ref a _, hv => by simp [AV.refless] at hv
  | .map a, hv => by simp [AV.refless] at hv
  | .vptr cs, hv => AV.reflessL_low d cs hv
  | .fn _ cs, hv => AV.reflessL_low d cs hv
  | .agg cs, hv => AV.reflessL_low d cs hv
  | .tup cs, hv => AV.reflessL_low d cs hv
  | .iface _ v, hv => AV.refless_low d v hv
theorem AV.reflessL_low (d : Nat) : ∀ (vs : List AV), AV.reflessL vs = true → AV.lowL d vs = true
  | [], _ => rfl
  | v :: vs, hv => by
    simp only [AV.reflessL, Bool.and_eq_true] at hv
    simp only [AV.lowL, Bool.and_eq_true]
    exact ⟨AV.refless_low d v hv.1, AV.reflessL_low d vs hv.2⟩
end
theorem lowL_iff {d : Nat} {cs : List AV} : AV.lowL d cs = true ↔ ∀ c, c ∈ cs → c.low d = true := by
  induction cs with
  | nil => simp [AV.lowL]
  | cons v vs ih => simp [AV.lowL, ih]
theorem low_cells {d : Nat} {e : AV} (h : e.low d = true) {c : AV} (hc : c ∈ e.cells) : c.low d = true := by
  unfold AV.cells at hc
  split at hc
  · exact lowL_iff.1 (by simpa [AV.low] using h) c hc
  · simp at hc; exact hc ▸ h
/-- A value that refers to no object above a depth. -/
theorem VR.lower {κ : Kap} {D d : Nat} {v : AV} {x : Value} (h : VR κ D v x) (hl : v.low d = true) : VR κ (d + 1) v x := by
  induction h with
  | dead x => exact .dead x
  | bool b => exact .bool b
  | int k n => exact .int k n
  | str bs s h => exact .str bs s h
  | slNil sz => exact .slNil sz
  | sl sz es g a cap vals hg hn hs hsz hr' hFF hv ih =>
    refine .sl sz es g a cap vals ?_ hn hs hsz hr' hFF (fun j c hc => ?_)
    · cases g with
      | buf l =>
        cases l with
        | l i => simp [AV.low, Loc.low] at hl
        | g e i => exact ⟨Nat.lt_succ_of_le (Nat.le_of_ble_eq_true (by simpa [AV.low, Loc.low] using hl)), hg.2⟩
      | nil => exact hg
      | exact => exact hg
      | any => exact hg
    · obtain ⟨e, he, hce⟩ := List.mem_flatMap.1 (List.mem_of_getElem? hc)
      rcases hr' with hr' | ⟨d', i', rfl, hr'⟩
      · exact (hv j c hc).refless (refless_cells (hr' e he) hce) _ (fun _ _ h => h)
      · exact ih j c hc (AV.low_mono (Nat.le_of_ble_eq_true (by simpa [AV.low, Loc.low] using hl)) c (low_cells (hr' e he) hce))
  | msl e i off len cap sz hd hi hl' => exact .msl e i off len cap sz (Nat.lt_succ_of_le (Nat.le_of_ble_eq_true (by simpa [AV.low, Loc.low] using hl))) hi hl'
  | ref e i off hd hi => exact .ref e i off (Nat.lt_succ_of_le (Nat.le_of_ble_eq_true (by simpa [AV.low, Loc.low] using hl))) hi
  | vptr cs a vals hs hFF hv ih => exact .vptr cs a vals hs hFF (fun j c hc => ih j c hc (lowL_get (by simpa [AV.low] using hl) hc))
  | nilp => exact .nilp
  | fn f cs xs hl' hv ih => exact .fn f cs xs hl' (fun j c x hc hx => ih j c x hc hx (lowL_get (by simpa [AV.low] using hl) hc))
  | nilf => exact .nilf
  | nilmap => exact .nilmap
  | map e i hd hi => exact .map e i (Nat.lt_succ_of_le (Nat.le_of_ble_eq_true (by simpa [AV.low, Loc.low] using hl))) hi
  | iface t v x h ih => exact .iface t v x (ih (by simpa [AV.low] using hl))
  | nili => exact .nili
  | agg cs xs hl' hv ih => exact .agg cs xs hl' (fun j c x hc hx => ih j c x hc hx (lowL_get (by simpa [AV.low] using hl) hc))
  | tup cs xs hl' hv ih => exact .tup cs xs hl' (fun j c x hc hx => ih j c x hc hx (lowL_get (by simpa [AV.low] using hl) hc))

/-! ### Objects -/
def unfz (fz : Nat × Nat) (n : Nat) : Prop := ∀ j, j < n → ¬ (fz.1 ≤ j ∧ j < fz.2)

/-- The entries of a map. -/
def MapR (κ : Kap) (D : Nat) (es : List (AV × AV)) (ents : List MapEntry) : Prop :=
  ents.length = es.length ∧ ∀ (j : Nat) (p : AV × AV) (e : MapEntry), es[j]? = some p → ents[j]? = some e → VR κ D p.1 e.key ∧ VR κ D p.2 e.val
theorem MapR.mono {κ κ' : Kap} {D : Nat} {es : List (AV × AV)} {ents : List MapEntry} (h : MapR κ D es ents) (k : KLe κ κ' D) : MapR κ' D es ents :=
  ⟨h.1, fun j p e hp he => ⟨(h.2 j p e hp he).1.mono k, (h.2 j p e hp he).2.mono k⟩⟩

def OR (κ : Kap) (d i : Nat) (w : World) : AObj → Prop
  | .cells cs => (∃ C e fz, w.heap[κ.loc d i]? = some (.cells C e fz) ∧ unfz fz C.size ∧ VRs κ (d + 1) cs C.toList) ∧ ∀ o, κ.F ⟨κ.loc d i, o, none⟩ = none
  | .tok n => ∃ b cap sz, κ.tk d i n = some (⟨b, 0, none⟩, cap, sz) ∧ n ≤ cap ∧ (∃ C e fz, w.heap[b]? = some (.cells C e fz) ∧ C.size = cap * sz ∧ unfz fz C.size) ∧ (∀ o, n * sz ≤ o → κ.F ⟨b, o, none⟩ = none) ∧ ∀ m, n < m → κ.tk d i m = none
  | .gone => True
  | .map es => ∃ ents clock, w.heap[κ.loc d i]? = some (.map ents clock) ∧ MapR κ (d + 1) es ents.toList

def blockOf (κ : Kap) (d i : Nat) : AObj → Option Nat
  | .cells _ | .map _ => some (κ.loc d i)
  | .tok n => (κ.tk d i n).map (·.1.block)
  | .gone => none

/-- The objects of the frame at a depth. -/
def St.fr (s : St) (d : Nat) : Option (List AObj) := if d = s.depth then some s.own else if d < s.depth then (s.up ++ s.ro)[s.depth - 1 - d]? else none

theorem St.get_g (s : St) (d i : Nat) : s.get (.g d i) = (s.fr d).bind (·[i]?) := by
  unfold St.get St.fr
  by_cases h : d = s.depth
  · simp [h]
  · by_cases h' : d < s.depth <;> simp [h, h']
theorem St.get_pub (s : St) (a : Loc) : s.get (a.pub s.depth) = s.get a := by
  cases a with
  | l i => simp [Loc.pub, St.get]
  | g d i => rfl

structure Sim (κ : Kap) (s : St) (w : World) : Prop where
  froz : ∀ a v, κ.F a = some v → a.spot = none ∧ w.cell? a = some v
  len : ∀ d l, s.fr d = some l → l.length = κ.n d
  obj : ∀ d i o, s.get (.g d i) = some o → OR κ d i w o
  inj : ∀ d i o d' i' o' b, s.get (.g d i) = some o → s.get (.g d' i') = some o' → blockOf κ d i o = some b → blockOf κ d' i' o' = some b → d = d' ∧ i = i'

/-- A block of an object that may be written. -/
def Live (κ : Kap) (s : St) (b : Nat) : Prop := ∃ d i o, s.get (.g d i) = some o ∧ blockOf κ d i o = some b

structure Ext (κ : Kap) (s : St) (w : World) (κ' : Kap) (s' : St) (w' : World) : Prop where
  k : KLe κ κ' (s.depth + 1)
  depth : s'.depth = s.depth
  size : w.heap.size ≤ w'.heap.size
  os : w'.os = w.os
  tape : w'.tape = w.tape
  output : w'.output = w.output
  chg : ∀ b, b < w.heap.size → ¬ Live κ s b → w'.heap[b]? = w.heap[b]?
  live : ∀ b, b < w.heap.size → Live κ' s' b → Live κ s b
  frz : ∀ a, κ'.F a ≠ none → κ.F a ≠ none ∨ w.heap.size ≤ a.block ∨ Live κ s a.block

theorem Ext.refl (κ : Kap) (s : St) (w : World) : Ext κ s w κ s w :=
  ⟨.refl _ _, rfl, Nat.le_refl _, rfl, rfl, rfl, fun _ _ _ => rfl, fun _ _ h => h, fun _ h => .inl h⟩
theorem Ext.trans {κ κ₁ κ₂ : Kap} {s s₁ s₂ : St} {w w₁ w₂ : World} (h : Ext κ s w κ₁ s₁ w₁) (k : Ext κ₁ s₁ w₁ κ₂ s₂ w₂) : Ext κ s w κ₂ s₂ w₂ := by
  refine ⟨h.k.trans (h.depth ▸ k.k), k.depth.trans h.depth, Nat.le_trans h.size k.size, k.os.trans h.os, k.tape.trans h.tape, k.output.trans h.output, fun b hb hl => ?_, fun b hb hl => ?_, fun a ha => ?_⟩
  · rw [k.chg b (Nat.lt_of_lt_of_le hb h.size) (fun h' => hl (h.live b hb h')), h.chg b hb hl]
  · exact h.live b hb (k.live b (Nat.lt_of_lt_of_le hb h.size) hl)
  · rcases k.frz a ha with h1 | h1 | h1
    · exact h.frz a h1
    · exact .inr (.inl (Nat.le_trans h.size h1))
    · by_cases hb : a.block < w.heap.size
      · exact .inr (.inr (h.live _ hb h1))
      · exact .inr (.inl (by omega))

/-- The temporaries of the running frame. -/
def FR (κ : Kap) (s : St) (fr : Nat → AV) (a : Act) : Prop := ∀ t, VR κ (s.depth + 1) ((fr t).pub s.depth) (a.tmps.getD t undef)

theorem FR.ext {κ κ' : Kap} {s s' : St} {w w' : World} {fr : Nat → AV} {a : Act} (h : FR κ s fr a) (e : Ext κ s w κ' s' w') : FR κ' s' fr a := by
  intro t
  have := (h t).mono e.k
  rw [e.depth]
  exact this

theorem add_spot {a : Addr} (h : a.spot = none) (j : Nat) : a.add j = ⟨a.block, a.off + j, none⟩ := by
  unfold Addr.add
  split
  · subst_vars; cases a; simp_all
  · cases a; simp_all
theorem add_add {a : Addr} (i j : Nat) : (a.add i).add j = a.add (i + j) := by
  unfold Addr.add
  by_cases hi : i = 0 <;> by_cases hj : j = 0 <;> simp_all <;> omega
theorem add_spot' {a : Addr} (h : a.spot = none) (j : Nat) : (a.add j).spot = none := by rw [add_spot h]
theorem add_block (a : Addr) (j : Nat) : (a.add j).block = a.block := by unfold Addr.add; split <;> rfl
end Go.Ab
end
section
/- The moves of the machine's memory that the abstract side makes: new blocks, stores, growth, freezing, frames. -/
namespace Go.Ab

theorem splice_length {α : Type} (vs : List α) : ∀ (cs : List α) (o : Nat), (splice cs o vs).length = cs.length := by
  induction vs with
  | nil => intro cs o; rfl
  | cons v vs ih => intro cs o; simp [splice, ih]
theorem splice_get {α : Type} (vs : List α) : ∀ (cs : List α) (o : Nat), o + vs.length ≤ cs.length → ∀ j, (splice cs o vs)[j]? = if o ≤ j ∧ j < o + vs.length then vs[j - o]? else cs[j]? := by
  induction vs with
  | nil => intro cs o _ j; simp [splice]; omega
  | cons v vs ih =>
    intro cs o h j
    simp only [List.length_cons] at h
    simp only [splice]
    rw [ih (cs.set o v) (o + 1) (by simp; omega)]
    by_cases hj : j = o
    · subst hj
      rw [if_neg (by omega), if_pos (by simp)]
      simp only [Nat.sub_self, List.getElem?_cons_zero]
      rw [List.getElem?_set_self (by omega)]
    · by_cases h1 : o + 1 ≤ j ∧ j < o + 1 + vs.length
      · rw [if_pos h1, if_pos (by simp; omega)]
        obtain ⟨m, rfl⟩ : ∃ m, j = o + 1 + m := ⟨j - (o + 1), by omega⟩
        simp only [show o + 1 + m - (o + 1) = m by omega, show o + 1 + m - o = m + 1 by omega, List.getElem?_cons_succ]
      · rw [if_neg h1, if_neg (by simp; omega)]
        rw [List.getElem?_set_ne (by omega)]

theorem setCells_heap (vs : List Value) : ∀ (w : World) (b o : Nat) (C : Array Value) (e : TypeId) (fz : Nat × Nat), w.heap[b]? = some (.cells C e fz) → o + vs.length ≤ C.size →
    ∀ b', (w.setCells b o vs).heap[b']? = if b' = b then some (.cells (splice C.toList o vs).toArray e fz) else w.heap[b']? := by
  induction vs with
  | nil => intro w b o C e fz hb _ b'; simp only [World.setCells, splice]; split <;> simp_all
  | cons v vs ih =>
    intro w b o C e fz hb ho b'
    simp only [List.length_cons] at ho
    have h1 : (w.setCell ⟨b, o, none⟩ v).heap[b]? = some (.cells (C.setIfInBounds o v) e fz) := by
      simp [World.setCell, Array.getElem?_modify, hb]
    rw [World.setCells, ih _ b (o + 1) _ e fz h1 (by simp; omega)]
    split
    · simp [splice, Array.toList_setIfInBounds]
    · rename_i hne
      simp [World.setCell, Array.getElem?_modify, Ne.symm hne]
theorem setCells_size (vs : List Value) : ∀ (w : World) (b o : Nat), (w.setCells b o vs).heap.size = w.heap.size := by
  induction vs with
  | nil => intro w b o; rfl
  | cons v vs ih => intro w b o; simp [World.setCells, ih]
theorem setCells_rest (vs : List Value) : ∀ (w : World) (b o : Nat), (w.setCells b o vs).os = w.os ∧ (w.setCells b o vs).tape = w.tape ∧ (w.setCells b o vs).output = w.output := by
  induction vs with
  | nil => intro w b o; exact ⟨rfl, rfl, rfl⟩
  | cons v vs ih => intro w b o; simp only [World.setCells]; exact ih _ b (o + 1)

theorem cell_of_heap {w : World} {b o : Nat} {C : Array Value} {e : TypeId} {fz : Nat × Nat} (h : w.heap[b]? = some (.cells C e fz)) : w.cell? ⟨b, o, none⟩ = C[o]? := by
  simp [World.cell?, h]
theorem cell_heap_eq {w w' : World} {a : Addr} (h : w'.heap[a.block]? = w.heap[a.block]?) : w'.cell? a = w.cell? a := by
  simp [World.cell?, h]
theorem cell_lt {w : World} {a : Addr} {v : Value} (h : w.cell? a = some v) : a.block < w.heap.size := by
  unfold World.cell? at h
  split at h
  · rename_i hb; exact (Array.getElem?_eq_some_iff.1 hb).1
  · cases h

theorem VRs.get {κ : Kap} {D : Nat} {cs : List AV} {xs : List Value} (h : VRs κ D cs xs) {j : Nat} {c : AV} (hc : cs[j]? = some c) : ∃ x, xs[j]? = some x ∧ VR κ D c x := by
  have hj : j < xs.length := by rw [h.1]; exact (List.getElem?_eq_some_iff.1 hc).1
  exact ⟨xs[j], List.getElem?_eq_getElem hj, h.2 j c _ hc (List.getElem?_eq_getElem hj)⟩
theorem VRs.mono {κ κ' : Kap} {D : Nat} {cs : List AV} {xs : List Value} (h : VRs κ D cs xs) (k : KLe κ κ' D) : VRs κ' D cs xs :=
  ⟨h.1, fun j c x hc hx => (h.2 j c x hc hx).mono k⟩
theorem VRs.up {κ : Kap} {D D' : Nat} {cs : List AV} {xs : List Value} (h : VRs κ D cs xs) (k : D ≤ D') : VRs κ D' cs xs :=
  ⟨h.1, fun j c x hc hx => (h.2 j c x hc hx).up k⟩
theorem VRs.nil (κ : Kap) (D : Nat) : VRs κ D [] [] := ⟨rfl, fun j c x hc => by simp at hc⟩
theorem VRs.cons {κ : Kap} {D : Nat} {c : AV} {x : Value} {cs : List AV} {xs : List Value} (h : VR κ D c x) (hs : VRs κ D cs xs) : VRs κ D (c :: cs) (x :: xs) := by
  refine ⟨by simp [hs.1], fun j c' x' hc hx => ?_⟩
  cases j with
  | zero => simp at hc hx; exact hc ▸ hx ▸ h
  | succ j => exact hs.2 j c' x' (by simpa using hc) (by simpa using hx)
theorem VRs.append {κ : Kap} {D : Nat} {cs ds : List AV} {xs ys : List Value} (h : VRs κ D cs xs) (k : VRs κ D ds ys) : VRs κ D (cs ++ ds) (xs ++ ys) := by
  refine ⟨by simp [h.1, k.1], fun j c x hc hx => ?_⟩
  by_cases hj : j < cs.length
  · rw [List.getElem?_append_left hj] at hc
    rw [List.getElem?_append_left (by rw [h.1]; exact hj)] at hx
    exact h.2 j c x hc hx
  · rw [List.getElem?_append_right (by omega)] at hc
    rw [List.getElem?_append_right (by rw [h.1]; omega), h.1] at hx
    exact k.2 _ c x hc hx
theorem VRs.uncons {κ : Kap} {D : Nat} {c : AV} {cs : List AV} {xs : List Value} (h : VRs κ D (c :: cs) xs) : ∃ x ys, xs = x :: ys ∧ VR κ D c x ∧ VRs κ D cs ys := by
  cases xs with
  | nil => have := h.1; simp at this
  | cons x ys => exact ⟨x, ys, rfl, h.2 0 c x rfl rfl, by simpa using h.1, fun j c' x' hc hx => h.2 (j + 1) c' x' (by simpa using hc) (by simpa using hx)⟩
theorem VRs.drop {κ : Kap} {D : Nat} {cs : List AV} {xs : List Value} (h : VRs κ D cs xs) (n : Nat) : VRs κ D (cs.drop n) (xs.drop n) :=
  ⟨by simp [h.1], fun j c x hc hx => h.2 (n + j) c x (by simpa using hc) (by simpa using hx)⟩
theorem VRs.take {κ : Kap} {D : Nat} {cs : List AV} {xs : List Value} (h : VRs κ D cs xs) (n : Nat) : VRs κ D (cs.take n) (xs.take n) := by
  refine ⟨by simp [h.1], fun j c x hc hx => ?_⟩
  simp only [List.getElem?_take] at hc hx
  split at hc <;> simp_all
  exact h.2 j c x hc hx
theorem VRs.splice {κ : Kap} {D : Nat} {cs vs : List AV} {xs ys : List Value} (h : VRs κ D cs xs) (k : VRs κ D vs ys) {o : Nat} (ho : o + vs.length ≤ cs.length) : VRs κ D (splice cs o vs) (Ab.splice xs o ys) := by
  refine ⟨by simp [splice_length, h.1], fun j c x hc hx => ?_⟩
  rw [splice_get _ _ _ ho] at hc
  rw [splice_get _ _ _ (by rw [k.1, h.1]; exact ho), k.1] at hx
  split at hc
  · rw [if_pos (by assumption)] at hx; exact k.2 _ _ _ hc hx
  · rw [if_neg (by assumption)] at hx; exact h.2 _ _ _ hc hx
theorem VRs.refless {κ : Kap} {D : Nat} {cs : List AV} {xs : List Value} (h : VRs κ D cs xs) (hr : AV.reflessL cs = true) {κ' : Kap} (D' : Nat) (hF : ∀ a v, κ.F a = some v → κ'.F a = some v) : VRs κ' D' cs xs :=
  ⟨h.1, fun j c x hc hx => (h.2 j c x hc hx).refless (reflessL_get hr hc) D' hF⟩

/-! ### Blocks of live objects -/
theorem OR.block {κ : Kap} {d i : Nat} {w : World} {o : AObj} {b : Nat} (h : OR κ d i w o) (hb : blockOf κ d i o = some b) : ∃ ob, w.heap[b]? = some ob := by
  cases o with
  | cells cs => simp only [blockOf, Option.some.injEq] at hb; subst hb; obtain ⟨⟨C, e, fz, h1, _⟩, _⟩ := h; exact ⟨_, h1⟩
  | tok n =>
    obtain ⟨b', cap, sz, h1, _, ⟨C, e, fz, h2, _⟩, _⟩ := h
    simp only [blockOf, h1, Option.map_some, Option.some.injEq] at hb
    subst hb
    exact ⟨_, h2⟩
  | map es => simp only [blockOf, Option.some.injEq] at hb; subst hb; obtain ⟨ents, clock, h1, _⟩ := h; exact ⟨_, h1⟩
  | gone => simp [blockOf] at hb
theorem Sim.live_lt {κ : Kap} {s : St} {w : World} (hs : Sim κ s w) {b : Nat} (h : Live κ s b) : b < w.heap.size := by
  obtain ⟨d, i, o, ho, hb⟩ := h
  obtain ⟨ob, hh⟩ := (hs.obj d i o ho).block hb
  exact (Array.getElem?_eq_some_iff.1 hh).1

/-- An object lives on where its block and what is known of it stay. -/
theorem OR.keep {κ κ' : Kap} {d i : Nat} {w w' : World} {o : AObj} (h : OR κ d i w o) (hi : i < κ.n d) (hk : KLe κ κ' (d + 1)) (ht : ∀ m, κ'.tk d i m = κ.tk d i m) (hb : ∀ b, blockOf κ d i o = some b → w'.heap[b]? = w.heap[b]? ∧ ∀ x, κ'.F ⟨b, x, none⟩ = κ.F ⟨b, x, none⟩) :
    OR κ' d i w' o ∧ blockOf κ' d i o = blockOf κ d i o := by
  cases o with
  | cells cs =>
    obtain ⟨⟨C, e, fz, h1, h2, h3⟩, h4⟩ := h
    have hl := hk.loc d i (Nat.lt_succ_self d) hi
    obtain ⟨e1, e2⟩ := hb _ rfl
    refine ⟨⟨⟨C, e, fz, by rw [hl, e1, h1], h2, h3.mono hk⟩, fun o => by rw [hl, e2, h4]⟩, by simp [blockOf, hl]⟩
  | tok n =>
    obtain ⟨b, cap, sz, h1, h0, ⟨C, e, fz, h2, h3, h4⟩, h5, h6⟩ := h
    have hl := hk.tk d i n _ (Nat.lt_succ_self d) hi h1
    obtain ⟨e1, e2⟩ := hb b (by simp [blockOf, h1])
    exact ⟨⟨b, cap, sz, hl, h0, ⟨C, e, fz, by rw [e1, h2], h3, h4⟩, fun o ho => by rw [e2, h5 o ho], fun m hm => by rw [ht, h6 m hm]⟩, by simp [blockOf, h1, hl]⟩
  | map es =>
    obtain ⟨ents, clock, h1, h2⟩ := h
    have hl := hk.loc d i (Nat.lt_succ_self d) hi
    obtain ⟨e1, e2⟩ := hb _ rfl
    exact ⟨⟨ents, clock, by rw [hl, e1, h1], h2.mono hk⟩, by simp [blockOf, hl]⟩
  | gone => exact ⟨trivial, rfl⟩

theorem Sim.lt_n {κ : Kap} {s : St} {w : World} (hs : Sim κ s w) {d i : Nat} {o : AObj} (h : s.get (.g d i) = some o) : i < κ.n d := by
  rw [St.get_g] at h
  cases hl : s.fr d with
  | none => simp [hl] at h
  | some l => rw [hl] at h; rw [← hs.len d l hl]; exact (List.getElem?_eq_some_iff.1 h).1
theorem St.get_depth {s : St} {d i : Nat} {o : AObj} (h : s.get (.g d i) = some o) : d ≤ s.depth := by
  rcases Nat.lt_trichotomy d s.depth with h1 | h1 | h1
  · omega
  · omega
  · have h2 : d ≠ s.depth := by omega
    have h3 : ¬ d < s.depth := by omega
    simp [St.get, h2, h3] at h
theorem Sim.get_lt {κ : Kap} {s : St} {w : World} (hs : Sim κ s w) {d i : Nat} {o : AObj} (h : s.get (.g d i) = some o) : d < s.depth + 1 ∧ i < κ.n d := ⟨by have := St.get_depth h; omega, hs.lt_n h⟩

/-- The world changes, but no block that matters. -/
theorem Sim.world {κ κ' : Kap} {s : St} {w w' : World} (hs : Sim κ s w) (hk : KLe κ κ' (s.depth + 1)) (hn : κ'.n = κ.n) (ht : κ'.tk = κ.tk) (hF : ∀ a v, κ'.F a = some v → a.spot = none ∧ w'.cell? a = some v)
    (hb : ∀ b, Live κ s b → w'.heap[b]? = w.heap[b]? ∧ ∀ x, κ'.F ⟨b, x, none⟩ = κ.F ⟨b, x, none⟩) : Sim κ' s w' := by
  have key : ∀ d i o, s.get (.g d i) = some o → OR κ' d i w' o ∧ blockOf κ' d i o = blockOf κ d i o := fun d i o h =>
    (hs.obj d i o h).keep (hs.lt_n h) (hk.low (by have := St.get_depth h; omega)) (fun m => by rw [ht]) (fun b hb' => hb b ⟨d, i, o, h, hb'⟩)
  refine ⟨hF, fun d l h => by rw [hn]; exact hs.len d l h, fun d i o h => (key d i o h).1, fun d i o d' i' o' b h h' e e' => ?_⟩
  rw [(key d i o h).2] at e
  rw [(key d' i' o' h').2] at e'
  exact hs.inj d i o d' i' o' b h h' e e'

/-- Cells that are frozen from here on. -/
def Kap.freeze (κ : Kap) (b lo : Nat) (C : Array Value) : Kap :=
  { κ with F := fun a => if a.block = b ∧ a.spot = none ∧ lo ≤ a.off ∧ a.off < C.size then C[a.off]? else κ.F a }

theorem freeze_at {κ : Kap} {b lo j : Nat} {C : Array Value} (h : lo ≤ j) (hj : j < C.size) : (κ.freeze b lo C).F ⟨b, j, none⟩ = some C[j] := by
  simp [Kap.freeze, h, hj]

theorem KLe.freeze {κ : Kap} {b lo : Nat} {C : Array Value} (hb : ∀ j, lo ≤ j → κ.F ⟨b, j, none⟩ = none) (D : Nat) : KLe κ (κ.freeze b lo C) D := by
  refine ⟨fun a v h => ?_, fun _ _ => Nat.le_refl _, fun _ _ _ _ => rfl, fun _ _ _ _ _ _ h => h⟩
  simp only [Kap.freeze]
  split
  · rename_i hc
    have h1 := hb a.off hc.2.2.1
    have : a = ⟨b, a.off, none⟩ := by cases a; simp_all
    rw [this, h1] at h
    cases h
  · exact h

theorem Sim.F_new {κ : Kap} {s : St} {w : World} (hs : Sim κ s w) {a : Addr} (h : w.heap.size ≤ a.block) : κ.F a = none := by
  cases e : κ.F a with
  | none => rfl
  | some v => have := cell_lt (hs.froz a v e).2; omega

/-- A new block whose cells never change. -/
theorem Sim.allocFrozen {κ : Kap} {s : St} {w w' : World} (hs : Sim κ s w) (C : Array Value) (e : TypeId) (fz : Nat × Nat) (hw : w'.heap = w.heap.push (.cells C e fz)) (ho : w'.os = w.os) (ht : w'.tape = w.tape) (hu : w'.output = w.output) :
    Sim (κ.freeze w.heap.size 0 C) s w' ∧ Ext κ s w (κ.freeze w.heap.size 0 C) s w' := by
  have hold : ∀ b, b < w.heap.size → w'.heap[b]? = w.heap[b]? := fun b hb => by rw [hw, Array.getElem?_push]; simp [Nat.ne_of_lt hb]
  have hnew : w'.heap[w.heap.size]? = some (.cells C e fz) := by rw [hw]; simp
  have hk : ∀ D, KLe κ (κ.freeze w.heap.size 0 C) D := fun D => KLe.freeze (fun j _ => hs.F_new (Nat.le_refl _)) D
  refine ⟨hs.world (hk _) rfl rfl (fun a v h => ?_) (fun b hb => ⟨hold b (hs.live_lt hb), fun x => ?_⟩), ⟨hk _, rfl, by rw [hw]; simp, ho, ht, hu, fun b hb _ => hold b hb, fun b _ h => h, fun a h => ?_⟩⟩
  · simp only [Kap.freeze] at h
    split at h
    · rename_i hc
      refine ⟨hc.2.1, ?_⟩
      have ha : a = ⟨w.heap.size, a.off, none⟩ := by cases a; simp_all
      rw [ha, cell_of_heap hnew]
      exact h
    · obtain ⟨h1, h2⟩ := hs.froz a v h
      exact ⟨h1, by rw [cell_heap_eq (hold _ (cell_lt h2))]; exact h2⟩
  · have := hs.live_lt hb
    simp [Kap.freeze, Nat.ne_of_lt this]
  · simp only [Kap.freeze] at h
    split at h
    · rename_i hc; exact .inr (.inl (by omega))
    · exact .inl h

/-- The same world but for what has been drawn. -/
theorem Sim.same {κ : Kap} {s : St} {w w' : World} (hs : Sim κ s w) (hw : w'.heap = w.heap) (ho : w'.os = w.os) (ht : w'.tape = w.tape) (hu : w'.output = w.output) : Sim κ s w' ∧ Ext κ s w κ s w' := by
  refine ⟨hs.world (.refl _ _) rfl rfl (fun a v h => ?_) (fun b _ => ⟨by rw [hw], fun _ => rfl⟩), ⟨.refl _ _, rfl, by rw [hw]; exact Nat.le_refl _, ho, ht, hu, fun b _ _ => by rw [hw], fun _ _ h => h, fun _ h => .inl h⟩⟩
  obtain ⟨h1, h2⟩ := hs.froz a v h
  exact ⟨h1, by rw [cell_heap_eq (w := w) (by rw [hw])]; exact h2⟩

theorem St.new_depth (s : St) (o : AObj) : (s.new o).depth = s.depth := rfl
theorem St.get_new (s : St) (o : AObj) (d i : Nat) : (s.new o).get (.g d i) = if d = s.depth ∧ i = s.own.length then some o else s.get (.g d i) := by
  unfold St.get
  simp only [St.new_depth]
  by_cases hd : d = s.depth
  · simp only [hd, ↓reduceIte, St.new, true_and]
    by_cases hi : i = s.own.length
    · simp [hi]
    · rw [if_neg hi]
      by_cases hlt : i < s.own.length
      · rw [List.getElem?_append_left hlt]
      · rw [List.getElem?_eq_none (by simp; omega), List.getElem?_eq_none (by omega)]
  · simp only [hd, false_and, ↓reduceIte]
    rfl
theorem St.fr_new (s : St) (o : AObj) (d : Nat) : (s.new o).fr d = if d = s.depth then some (s.own ++ [o]) else s.fr d := by
  unfold St.fr
  simp only [St.new_depth]
  by_cases hd : d = s.depth
  · simp [hd, St.new]
  · simp only [hd, ↓reduceIte]
    rfl

/-- An object that is new in a frame. -/
structure NewAt (s s' : St) (d i : Nat) (o : AObj) : Prop where
  depth : s'.depth = s.depth
  le : d ≤ s.depth
  fr : ∀ d', s'.fr d' = if d' = d then (s.fr d').map (· ++ [o]) else s.fr d'
  here : ∃ l, s.fr d = some l ∧ l.length = i
theorem NewAt.new (s : St) (o : AObj) : NewAt s (s.new o) s.depth s.own.length o := by
  refine ⟨rfl, Nat.le_refl _, fun d' => ?_, s.own, by simp [St.fr], rfl⟩
  rw [St.fr_new]
  split
  · rename_i h; subst h; simp [St.fr]
  · rfl
theorem NewAt.get {s s' : St} {d i : Nat} {o : AObj} (h : NewAt s s' d i o) (d' i' : Nat) : s'.get (.g d' i') = if d' = d ∧ i' = i then some o else s.get (.g d' i') := by
  rw [St.get_g, St.get_g, h.fr]
  obtain ⟨l, h1, h2⟩ := h.here
  by_cases hd : d' = d
  · subst hd
    simp only [↓reduceIte, h1, Option.map_some, Option.bind_some, true_and]
    by_cases hi : i' = i
    · subst hi; simp [h2]
    · rw [if_neg hi]
      by_cases hlt : i' < l.length
      · rw [List.getElem?_append_left hlt]
      · rw [List.getElem?_eq_none (by simp; omega), List.getElem?_eq_none (by omega)]
  · simp [hd]
theorem NewAt.by {s s' : St} {a l : Loc} {o : AObj} (h : s.newBy a o = some (l, s')) : ∃ d i, l.pub s.depth = .g d i ∧ NewAt s s' d i o := by
  cases a with
  | l j =>
    simp only [St.newBy, Option.some.injEq, Prod.mk.injEq] at h
    obtain ⟨rfl, rfl⟩ := h
    exact ⟨_, _, rfl, NewAt.new s o⟩
  | g d j =>
    simp only [St.newBy] at h
    split at h
    · simp only [Option.some.injEq, Prod.mk.injEq] at h
      obtain ⟨rfl, rfl⟩ := h
      exact ⟨_, _, rfl, NewAt.new s o⟩
    · rename_i hne
      split at h
      · rename_i hc
        cases hl : s.up[s.depth - 1 - d]? with
        | none => rw [hl] at h; cases h
        | some fl =>
          rw [hl] at h
          simp only [Option.some.injEq, Prod.mk.injEq] at h
          obtain ⟨rfl, rfl⟩ := h
          have hlen : s.depth = s.up.length + s.ro.length := rfl
          have hin : s.depth - 1 - d < s.up.length := by omega
          have hfd : s.fr d = some fl := by
            simp only [St.fr, hne, ↓reduceIte, hc.1]
            rw [List.getElem?_append_left hin, hl]
          have hdep : ({ s with up := s.up.modify (s.depth - 1 - d) (· ++ [o]) } : St).depth = s.depth := by simp [St.depth]
          refine ⟨d, fl.length, rfl, hdep, by omega, fun d' => ?_, fl, hfd, rfl⟩
          unfold St.fr
          rw [hdep]
          by_cases h1 : d' = s.depth
          · have : ¬ s.depth = d := fun e => hne e.symm
            simp [h1, this]
          · by_cases h3 : d' < s.depth
            · simp only [h1, ↓reduceIte, h3]
              by_cases h4 : d' = d
              · subst h4
                simp only [↓reduceIte]
                rw [List.getElem?_append_left (by simpa using hin), List.getElem?_append_left hin, List.getElem?_modify]
                simp
              · simp only [h4, ↓reduceIte]
                by_cases h5 : s.depth - 1 - d' < s.up.length
                · rw [List.getElem?_append_left (by simpa using h5), List.getElem?_append_left h5, List.getElem?_modify]
                  have hq : ¬ s.depth - 1 - d = s.depth - 1 - d' := by omega
                  simp [hq]
                · rw [List.getElem?_append_right (by simpa using h5), List.getElem?_append_right (by omega)]
                  simp
            · have : ¬ d' = d := by omega
              simp [h1, h3, this]
      · cases h

/-- A new object: its place is the frame's next one. -/
theorem Sim.newObj {κ κ' : Kap} {s : St} {w w' : World} (hs : Sim κ s w) (o : AObj) (hk : KLe κ κ' (s.depth + 1)) {s' : St} {dd ii : Nat} (hnew : NewAt s s' dd ii o) (hn : ∀ d, κ'.n d = if d = dd then κ.n d + 1 else κ.n d) (htk : ∀ d i m, i < κ.n d → κ'.tk d i m = κ.tk d i m)
    (hF : κ'.F = κ.F ∨ ∃ lo C, (κ'.F = (κ.freeze w.heap.size lo C).F) ∧ ∃ C' e fz, w'.heap[w.heap.size]? = some (.cells C' e fz) ∧ ∀ (j : Nat) (x : Value), C[j]? = some x → C'[j]? = some x) (hold : ∀ b, b < w.heap.size → w'.heap[b]? = w.heap[b]?) (hsz : w.heap.size ≤ w'.heap.size) (ho : w'.os = w.os) (ht : w'.tape = w.tape) (hu : w'.output = w.output)
    (hor : OR κ' dd ii w' o) (hb : ∀ b, blockOf κ' dd ii o = some b → w.heap.size ≤ b) : Sim κ' s' w' ∧ Ext κ s w κ' s' w' := by
  have hFF : ∀ b x, b < w.heap.size → κ'.F ⟨b, x, none⟩ = κ.F ⟨b, x, none⟩ := by
    intro b x hb
    rcases hF with hF | ⟨lo, C, hF, _⟩
    · rw [hF]
    · rw [hF]; simp [Kap.freeze, Nat.ne_of_lt hb]
  have key : ∀ d i o, s.get (.g d i) = some o → OR κ' d i w' o ∧ blockOf κ' d i o = blockOf κ d i o := fun d i o h =>
    (hs.obj d i o h).keep (hs.lt_n h) (hk.low (by have := St.get_depth h; omega)) (fun m => htk d i m (hs.lt_n h)) (fun b hb' => by
      have hlt := hs.live_lt ⟨d, i, o, h, hb'⟩
      exact ⟨hold b hlt, fun x => hFF b x hlt⟩)
  refine ⟨⟨fun a v h => ?_, fun d l h => ?_, fun d i o' h => ?_, fun d i o₁ d' i' o₂ b h h' e e' => ?_⟩, ⟨hk, hnew.depth, hsz, ho, ht, hu, fun b hb _ => hold b hb, fun b hb' hl => ?_, fun a ha => ?_⟩⟩
  · rcases hF with hF | ⟨lo, C, hF, C', e, fz, hC, hCC⟩
    · rw [hF] at h
      obtain ⟨h1, h2⟩ := hs.froz a v h
      exact ⟨h1, by rw [cell_heap_eq (hold _ (cell_lt h2))]; exact h2⟩
    · rw [hF] at h
      simp only [Kap.freeze] at h
      split at h
      · rename_i hc
        refine ⟨hc.2.1, ?_⟩
        have ha : a = ⟨w.heap.size, a.off, none⟩ := by cases a; simp_all
        rw [ha, cell_of_heap hC]
        exact hCC _ _ h
      · obtain ⟨h1, h2⟩ := hs.froz a v h
        exact ⟨h1, by rw [cell_heap_eq (hold _ (cell_lt h2))]; exact h2⟩
  · rw [hnew.fr] at h
    rw [hn]
    split at h
    · rename_i hd
      cases hf : s.fr d with
      | none => rw [hf] at h; cases h
      | some l' =>
        rw [hf] at h
        simp only [Option.map_some, Option.some.injEq] at h
        rw [← h, if_pos hd, ← hs.len d l' hf]
        simp
    · rename_i hd
      rw [if_neg hd]
      exact hs.len d l h
  · rw [hnew.get] at h
    split at h
    · rename_i hc
      obtain ⟨rfl, rfl⟩ := hc
      simp only [Option.some.injEq] at h
      exact h ▸ hor
    · exact (key d i o' h).1
  · rw [hnew.get] at h h'
    split at h
    · rename_i hc
      obtain ⟨rfl, rfl⟩ := hc
      simp only [Option.some.injEq] at h
      subst h
      split at h'
      · rename_i hc'
        exact ⟨hc'.1.symm, hc'.2.symm⟩
      · rw [(key d' i' o₂ h').2] at e'
        have := hs.live_lt ⟨d', i', o₂, h', e'⟩
        have := hb b e
        omega
    · split at h'
      · rename_i hc'
        obtain ⟨rfl, rfl⟩ := hc'
        simp only [Option.some.injEq] at h'
        subst h'
        rw [(key d i o₁ h).2] at e
        have := hs.live_lt ⟨d, i, o₁, h, e⟩
        have := hb b e'
        omega
      · rw [(key d i o₁ h).2] at e
        rw [(key d' i' o₂ h').2] at e'
        exact hs.inj d i o₁ d' i' o₂ b h h' e e'
  · obtain ⟨d, i, o', hg, hbl⟩ := hl
    rw [hnew.get] at hg
    split at hg
    · rename_i hc
      obtain ⟨rfl, rfl⟩ := hc
      simp only [Option.some.injEq] at hg
      subst hg
      have := hb b hbl
      omega
    · rw [(key d i o' hg).2] at hbl
      exact ⟨d, i, o', hg, hbl⟩
  · by_cases hlt : a.block < w.heap.size
    · left
      rcases hF with hF | ⟨lo, C, hF, _⟩
      · rwa [hF] at ha
      · rw [hF] at ha
        simpa [Kap.freeze, Nat.ne_of_lt hlt] using ha
    · exact .inr (.inl (by omega))

/-- A new variable. -/
theorem Sim.allocCells {κ : Kap} {s : St} {w w' : World} (hs : Sim κ s w) (cs : List AV) (C : Array Value) (e : TypeId) (hc : VRs κ (s.depth + 1) cs C.toList) (hw : w'.heap = w.heap.push (.cells C e (0, 0))) (ho : w'.os = w.os) (ht : w'.tape = w.tape) (hu : w'.output = w.output) :
    ∃ κ', Sim κ' (s.new (.cells cs)) w' ∧ Ext κ s w κ' (s.new (.cells cs)) w' ∧ κ'.loc s.depth s.own.length = w.heap.size ∧ s.own.length < κ'.n s.depth := by
  have hown : s.own.length = κ.n s.depth := hs.len s.depth s.own (by simp [St.fr])
  let κ' : Kap := { κ with n := fun d => if d = s.depth then κ.n d + 1 else κ.n d, loc := fun d i => if d = s.depth ∧ i = s.own.length then w.heap.size else κ.loc d i }
  have hk : KLe κ κ' (s.depth + 1) := by
    refine ⟨fun _ _ h => h, fun d _ => ?_, fun d i _ hi => ?_, fun _ _ _ _ _ _ h => h⟩
    · simp only [κ']; split <;> omega
    · simp only [κ']
      rw [if_neg]
      rintro ⟨rfl, rfl⟩
      omega
  have hnew : w'.heap[w.heap.size]? = some (.cells C e (0, 0)) := by rw [hw]; simp
  refine ⟨κ', ?_⟩
  have := hs.newObj (κ' := κ') (w' := w') (.cells cs) hk (NewAt.new s _) (fun d => rfl) (fun _ _ _ _ => rfl) (.inl rfl) (fun b hb => by rw [hw, Array.getElem?_push]; simp [Nat.ne_of_lt hb]) (by rw [hw]; simp) ho ht hu
    ⟨⟨C, e, (0, 0), by simp [κ', hnew], fun j _ => by simp, hc.mono hk⟩, fun o => hs.F_new (by simp [κ'])⟩ (fun b hb => by simp [blockOf, κ'] at hb; omega)
  exact ⟨this.1, this.2, by simp [κ'], by simp [κ', hown]⟩
end Go.Ab
end
section
/- The moves of the machine's memory, continued: an object turns, a frame comes and goes. -/
namespace Go.Ab

theorem St.set_pub (s : St) (a : Loc) (o : AObj) : s.set (a.pub s.depth) o = s.set a o := by
  cases a with
  | l i => simp [Loc.pub, St.set]
  | g d i => rfl

theorem modify_get (l : List (List AObj)) (n i : Nat) (o : AObj) (m : Nat) : (l.modify n (·.set i o))[m]? = if m = n then (l[m]?).map (·.set i o) else l[m]? := by
  rw [List.getElem?_modify]
  by_cases h : m = n
  · simp [h]
  · simp [h, Ne.symm h]

theorem St.set_facts {s s' : St} {d i : Nat} {o : AObj} (h : s.set (.g d i) o = some s') : s'.depth = s.depth ∧ ∀ d', s'.fr d' = if d' = d then (s.fr d').map (·.set i o) else s.fr d' := by
  by_cases hd : d = s.depth
  · simp only [St.set, hd, ↓reduceIte, Option.some.injEq] at h
    subst h
    refine ⟨rfl, fun d' => ?_⟩
    by_cases h1 : d' = s.depth
    · simp [St.fr, St.depth, h1, hd]
    · have h1' : ¬ d' = s.up.length + s.ro.length := h1
      simp only [St.fr, St.depth, h1', hd, ↓reduceIte]
      rfl
  · by_cases h2 : d < s.depth ∧ s.ro.length ≤ d
    · simp only [St.set, hd, ↓reduceIte, h2, and_self, Option.some.injEq] at h
      subst h
      have hdep : ({ s with up := s.up.modify (s.depth - 1 - d) (·.set i o) } : St).depth = s.depth := by simp [St.depth]
      refine ⟨hdep, fun d' => ?_⟩
      unfold St.fr
      rw [hdep]
      by_cases h1 : d' = s.depth
      · have : ¬ s.depth = d := fun e => hd e.symm
        simp [h1, this]
      · by_cases h3 : d' < s.depth
        · have hlen : s.depth = s.up.length + s.ro.length := rfl
          have hin : s.depth - 1 - d < s.up.length := by omega
          simp only [h1, ↓reduceIte, h3]
          by_cases h4 : d' = d
          · subst h4
            simp only [↓reduceIte]
            rw [List.getElem?_append_left (by simpa using hin), List.getElem?_append_left hin, modify_get]
            simp
          · simp only [h4, ↓reduceIte]
            by_cases h5 : s.depth - 1 - d' < s.up.length
            · rw [List.getElem?_append_left (by simpa using h5), List.getElem?_append_left h5, modify_get, if_neg (by omega)]
            · rw [List.getElem?_append_right (by simpa using h5), List.getElem?_append_right (by omega)]
              simp
        · by_cases h4 : d' = d
          · exact absurd (h4 ▸ h2.1) h3
          · simp [h1, h3, h4]
    · have h3 : ¬ (d < s.depth ∧ s.ro.length ≤ d) := h2
      simp [St.set, hd, h3] at h

theorem St.set_get {s s' : St} {d i : Nat} {o o₀ : AObj} (h : s.set (.g d i) o = some s') (hg : s.get (.g d i) = some o₀) (d' i' : Nat) : s'.get (.g d' i') = if d' = d ∧ i' = i then some o else s.get (.g d' i') := by
  rw [St.get_g, (St.set_facts h).2 d', St.get_g]
  by_cases hd : d' = d
  · subst hd
    rw [St.get_g] at hg
    cases hf : s.fr d' with
    | none => simp [hf] at hg
    | some l =>
      rw [hf] at hg
      simp only [Option.bind_some] at hg
      have hi : i < l.length := (List.getElem?_eq_some_iff.1 hg).1
      simp only [↓reduceIte, Option.map_some, Option.bind_some, true_and]
      by_cases hii : i' = i
      · subst hii; simp [hi]
      · rw [if_neg hii, List.getElem?_set_ne (fun e => hii e.symm)]
  · simp [hd]

/-- An object turns into another one. -/
theorem Sim.setObj {κ κ' : Kap} {s s' : St} {w w' : World} (hs : Sim κ s w) {d i : Nat} {o o' : AObj} (hg : s.get (.g d i) = some o) (hset : s.set (.g d i) o' = some s') (hk : KLe κ κ' (s.depth + 1)) (hn : κ'.n = κ.n)
    (htk : ∀ d' i' m, ¬ (d' = d ∧ i' = i) → κ'.tk d' i' m = κ.tk d' i' m) (hF : ∀ a v, κ'.F a = some v → a.spot = none ∧ w'.cell? a = some v)
    (hold : ∀ b, b < w.heap.size → blockOf κ d i o ≠ some b → w'.heap[b]? = w.heap[b]? ∧ ∀ x, κ'.F ⟨b, x, none⟩ = κ.F ⟨b, x, none⟩)
    (hsz : w.heap.size ≤ w'.heap.size) (ho : w'.os = w.os) (ht : w'.tape = w.tape) (hu : w'.output = w.output)
    (hor : OR κ' d i w' o') (hb : ∀ b, blockOf κ' d i o' = some b → blockOf κ d i o = some b ∨ w.heap.size ≤ b) : Sim κ' s' w' ∧ Ext κ s w κ' s' w' := by
  have hget := St.set_get hset hg
  obtain ⟨hdep, hfr⟩ := St.set_facts hset
  have key : ∀ d₁ i₁ o₁, ¬ (d₁ = d ∧ i₁ = i) → s.get (.g d₁ i₁) = some o₁ → OR κ' d₁ i₁ w' o₁ ∧ blockOf κ' d₁ i₁ o₁ = blockOf κ d₁ i₁ o₁ := fun d₁ i₁ o₁ hne h =>
    (hs.obj d₁ i₁ o₁ h).keep (hs.lt_n h) (hk.low (by have := St.get_depth h; omega)) (fun m => htk d₁ i₁ m hne) (fun b hb' => by
      have hlt := hs.live_lt ⟨d₁, i₁, o₁, h, hb'⟩
      exact hold b hlt (fun e => hne (hs.inj d₁ i₁ o₁ d i o b h hg hb' e)))
  refine ⟨⟨hF, fun d₁ l h => ?_, fun d₁ i₁ o₁ h => ?_, fun d₁ i₁ o₁ d₂ i₂ o₂ b h h' e e' => ?_⟩, ⟨hk, hdep, hsz, ho, ht, hu, fun b hb hl => (hold b hb (fun e => hl ⟨d, i, o, hg, e⟩)).1, fun b hb' hl => ?_, fun a ha => ?_⟩⟩
  · rw [hfr] at h
    rw [hn]
    split at h
    · cases hf : s.fr d₁ with
      | none => simp [hf] at h
      | some l' => rw [hf] at h; simp only [Option.map_some, Option.some.injEq] at h; rw [← h]; simpa using hs.len d₁ l' hf
    · exact hs.len d₁ l h
  · rw [hget] at h
    split at h
    · rename_i hc
      obtain ⟨rfl, rfl⟩ := hc
      simp only [Option.some.injEq] at h
      exact h ▸ hor
    · rename_i hc
      exact (key d₁ i₁ o₁ hc h).1
  · rw [hget] at h h'
    split at h
    · rename_i hc
      obtain ⟨rfl, rfl⟩ := hc
      simp only [Option.some.injEq] at h
      subst h
      split at h'
      · rename_i hc'; exact ⟨hc'.1.symm, hc'.2.symm⟩
      · rename_i hc'
        rw [(key d₂ i₂ o₂ hc' h').2] at e'
        rcases hb b e with h1 | h1
        · obtain ⟨h2, h3⟩ := hs.inj d₂ i₂ o₂ _ _ o b h' hg e' h1; exact absurd ⟨h2, h3⟩ hc'
        · have := hs.live_lt ⟨d₂, i₂, o₂, h', e'⟩; omega
    · rename_i hc
      rw [(key d₁ i₁ o₁ hc h).2] at e
      split at h'
      · rename_i hc'
        obtain ⟨rfl, rfl⟩ := hc'
        simp only [Option.some.injEq] at h'
        subst h'
        rcases hb b e' with h1 | h1
        · obtain ⟨h2, h3⟩ := hs.inj d₁ i₁ o₁ _ _ o b h hg e h1; exact absurd ⟨h2, h3⟩ hc
        · have := hs.live_lt ⟨d₁, i₁, o₁, h, e⟩; omega
      · rename_i hc'
        rw [(key d₂ i₂ o₂ hc' h').2] at e'
        exact hs.inj d₁ i₁ o₁ d₂ i₂ o₂ b h h' e e'
  · obtain ⟨d₁, i₁, o₁, h, hbl⟩ := hl
    rw [hget] at h
    split at h
    · rename_i hc
      obtain ⟨rfl, rfl⟩ := hc
      simp only [Option.some.injEq] at h
      subst h
      rcases hb b hbl with h1 | h1
      · exact ⟨_, _, o, hg, h1⟩
      · omega
    · rename_i hc
      rw [(key d₁ i₁ o₁ hc h).2] at hbl
      exact ⟨d₁, i₁, o₁, h, hbl⟩
  · by_cases hlt : a.block < w.heap.size
    · by_cases hbo : blockOf κ d i o = some a.block
      · exact .inr (.inr ⟨d, i, o, hg, hbo⟩)
      · left
        cases hx : κ'.F a with
        | none => exact absurd hx ha
        | some v =>
          have hsp := (hF a v hx).1
          have h1 := (hold a.block hlt hbo).2 a.off
          have haa : a = ⟨a.block, a.off, none⟩ := by cases a; simp_all
          rw [haa, ← h1, ← haa]
          exact ha
    · exact .inr (.inl (by omega))

/-- A store into an object's cells. -/
theorem Sim.store {κ : Kap} {s s' : St} {w : World} (hs : Sim κ s w) {d i off : Nat} {cs vs : List AV} {xs : List Value} (hg : s.get (.g d i) = some (.cells cs)) (hset : s.set (.g d i) (.cells (splice cs off vs)) = some s')
    (hv : VRs κ (d + 1) vs xs) (ho : off + vs.length ≤ cs.length) : Sim κ s' (w.setCells (κ.loc d i) off xs) ∧ Ext κ s w κ s' (w.setCells (κ.loc d i) off xs) := by
  obtain ⟨⟨C, e, fz, h1, h2, h3⟩, h4⟩ := hs.obj d i _ hg
  have hxl : xs.length = vs.length := hv.1
  have hCl : C.size = cs.length := by simpa using h3.1
  have hheap := setCells_heap xs w (κ.loc d i) off C e fz h1 (by omega)
  obtain ⟨r1, r2, r3⟩ := setCells_rest xs w (κ.loc d i) off
  refine hs.setObj hg hset (.refl _ _) rfl (fun _ _ _ _ => rfl) (fun a v h => ?_) (fun b _ hb => ⟨?_, fun _ => rfl⟩) (by rw [setCells_size]; exact Nat.le_refl _) r1 r2 r3 ⟨⟨(splice C.toList off xs).toArray, e, fz, by rw [hheap]; simp, by simpa [splice_length] using h2, by simpa using h3.splice hv ho⟩, h4⟩ (fun b hb => .inl hb)
  · obtain ⟨h5, h6⟩ := hs.froz a v h
    refine ⟨h5, ?_⟩
    rw [cell_heap_eq (w := w) ?_]
    · exact h6
    · rw [hheap, if_neg]
      intro e1
      have haa : a = ⟨κ.loc d i, a.off, none⟩ := by cases a; simp_all
      rw [haa, h4] at h
      cases h
  · rw [hheap, if_neg (fun e1 => hb (by simp [blockOf, e1]))]

/-- An object whose cells are frozen is gone. -/
theorem Sim.freezeObj {κ : Kap} {s s' : St} {w : World} (hs : Sim κ s w) {d i : Nat} {cs : List AV} (hg : s.get (.g d i) = some (.cells cs)) (hset : s.set (.g d i) .gone = some s') :
    ∃ C e fz, w.heap[κ.loc d i]? = some (.cells C e fz) ∧ VRs κ (d + 1) cs C.toList ∧ Sim (κ.freeze (κ.loc d i) 0 C) s' w ∧ Ext κ s w (κ.freeze (κ.loc d i) 0 C) s' w := by
  obtain ⟨⟨C, e, fz, h1, h2, h3⟩, h4⟩ := hs.obj d i _ hg
  refine ⟨C, e, fz, h1, h3, ?_⟩
  refine hs.setObj hg hset (KLe.freeze (fun j _ => h4 j) _) rfl (fun _ _ _ _ => rfl) (fun a v h => ?_) (fun b _ hb => ⟨rfl, fun x => ?_⟩) (Nat.le_refl _) rfl rfl rfl trivial (fun b hb => by simp [blockOf] at hb)
  · simp only [Kap.freeze] at h
    split at h
    · rename_i hc
      refine ⟨hc.2.1, ?_⟩
      have ha : a = ⟨κ.loc d i, a.off, none⟩ := by cases a; simp_all
      rw [ha, cell_of_heap h1]
      exact h
    · exact hs.froz a v h
  · simp only [blockOf, ne_eq, Option.some.injEq] at hb
    simp [Kap.freeze, Ne.symm hb]

/-! ### Maps -/
/-- A new map. -/
theorem Sim.newMap {κ : Kap} {s s' : St} {w w' : World} (hs : Sim κ s w) {dd ii : Nat} (hnw : NewAt s s' dd ii (.map [])) (hw : w'.heap = w.heap.push (.map #[] 0)) (ho : w'.os = w.os) (ht : w'.tape = w.tape) (hu : w'.output = w.output) :
    ∃ κ', Sim κ' s' w' ∧ Ext κ s w κ' s' w' ∧ κ'.loc dd ii = w.heap.size ∧ ii < κ'.n dd := by
  have hown : ii = κ.n dd := by obtain ⟨l, h1, h2⟩ := hnw.here; rw [← h2]; exact hs.len dd l h1
  let κ' : Kap := { κ with n := fun d => if d = dd then κ.n d + 1 else κ.n d, loc := fun d i => if d = dd ∧ i = ii then w.heap.size else κ.loc d i }
  have hk : KLe κ κ' (s.depth + 1) := by
    refine ⟨fun _ _ h => h, fun d _ => ?_, fun d i _ hi => ?_, fun _ _ _ _ _ _ h => h⟩
    · simp only [κ']; split <;> omega
    · simp only [κ']
      rw [if_neg]
      rintro ⟨rfl, rfl⟩
      omega
  have hnew : w'.heap[w.heap.size]? = some (.map #[] 0) := by rw [hw]; simp
  refine ⟨κ', ?_⟩
  have := hs.newObj (κ' := κ') (w' := w') (.map []) hk hnw (fun d => rfl) (fun _ _ _ _ => rfl) (.inl rfl) (fun b hb => by rw [hw, Array.getElem?_push]; simp [Nat.ne_of_lt hb]) (by rw [hw]; simp) ho ht hu
    ⟨#[], 0, by simp [κ', hnew], rfl, fun j p e hp => by simp at hp⟩ (fun b hb => by simp [blockOf, κ'] at hb; omega)
  exact ⟨this.1, this.2, by simp [κ'], by simp [κ', hown]⟩
/-- A map's entries turn. -/
theorem Sim.setMap {κ : Kap} {s s' : St} {w : World} (hs : Sim κ s w) {d i : Nat} {es es' : List (AV × AV)} {ents : Array MapEntry} {clock : Nat} (hg : s.get (.g d i) = some (.map es)) (hset : s.set (.g d i) (.map es') = some s') (hm : MapR κ (d + 1) es' ents.toList) :
    Sim κ s' { w with heap := w.heap.setIfInBounds (κ.loc d i) (.map ents clock) } ∧ Ext κ s w κ s' { w with heap := w.heap.setIfInBounds (κ.loc d i) (.map ents clock) } := by
  obtain ⟨ents0, clock0, h1, h2⟩ := hs.obj d i _ hg
  have hlt : κ.loc d i < w.heap.size := (Array.getElem?_eq_some_iff.1 h1).1
  have hheap : ∀ b, (w.heap.setIfInBounds (κ.loc d i) (.map ents clock))[b]? = if b = κ.loc d i then some (.map ents clock) else w.heap[b]? := by
    intro b
    rw [Array.getElem?_setIfInBounds]
    by_cases hb : κ.loc d i = b
    · subst hb; simp [hlt]
    · have : ¬ b = κ.loc d i := fun e => hb e.symm
      simp [hb, this]
  refine hs.setObj (w' := { w with heap := w.heap.setIfInBounds (κ.loc d i) (.map ents clock) }) hg hset (.refl _ _) rfl (fun _ _ _ _ => rfl) (fun a v h => ?_) (fun b _ hb => ⟨?_, fun _ => rfl⟩) (by simp) rfl rfl rfl ⟨ents, clock, by simp [hheap], hm⟩ (fun b hb => .inl hb)
  · obtain ⟨h5, h6⟩ := hs.froz a v h
    refine ⟨h5, ?_⟩
    rw [cell_heap_eq (w := w) ?_]
    · exact h6
    · show (w.heap.setIfInBounds _ _)[_]? = _
      rw [hheap, if_neg]
      intro e1
      have : w.cell? a = none := by simp [World.cell?, e1, h1]
      rw [this] at h6
      cases h6
  · show (w.heap.setIfInBounds _ _)[_]? = _
    rw [hheap, if_neg (fun e1 => hb (by simp [blockOf, e1]))]

/-! ### Growing slices -/
/-- A token: n elements of sz cells lie in a new block of so many places. -/
theorem Sim.newTok {κ : Kap} {s : St} {w w' : World} (hs : Sim κ s w) {s' : St} {dd ii : Nat} (C : Array Value) (e : TypeId) (n sz cap : Nat) (hnw : NewAt s s' dd ii (.tok n)) (hC : C.size = cap * sz) (hn : n ≤ cap) (hw : w'.heap = w.heap.push (.cells C e (0, 0))) (ho : w'.os = w.os) (ht : w'.tape = w.tape) (hu : w'.output = w.output) :
    ∃ κ', Sim κ' s' w' ∧ Ext κ s w κ' s' w' ∧ ii < κ'.n dd ∧ κ'.tk dd ii n = some (⟨w.heap.size, 0, none⟩, cap, sz) ∧ ∀ j, j < n * sz → κ'.F ⟨w.heap.size, j, none⟩ = C[j]? := by
  have hown : ii = κ.n dd := by obtain ⟨l, h1, h2⟩ := hnw.here; rw [← h2]; exact hs.len dd l h1
  have hle : n * sz ≤ C.size := by rw [hC]; exact Nat.mul_le_mul_right _ hn
  have hEl : ((C.toList.take (n * sz)).toArray).size = n * sz := by simp; omega
  let κ' : Kap := { (κ.freeze w.heap.size 0 (C.toList.take (n * sz)).toArray) with n := fun d => if d = dd then κ.n d + 1 else κ.n d, tk := fun d i m => if d = dd ∧ i = ii then (if m = n then some (⟨w.heap.size, 0, none⟩, cap, sz) else none) else κ.tk d i m }
  have hk : KLe κ κ' (s.depth + 1) := by
    refine ⟨fun a v h => ?_, fun d _ => ?_, fun _ _ _ _ => rfl, fun d i m x _ hi h => ?_⟩
    · exact (KLe.freeze (fun j _ => hs.F_new (Nat.le_refl _)) (s.depth + 1)).F a v h
    · simp only [κ']; split <;> omega
    · simp only [κ']
      rw [if_neg]
      · exact h
      · rintro ⟨rfl, rfl⟩; omega
  have hnew : w'.heap[w.heap.size]? = some (.cells C e (0, 0)) := by rw [hw]; simp
  have hFC : ∀ j, j < n * sz → κ'.F ⟨w.heap.size, j, none⟩ = C[j]? := by
    intro j hj
    simp only [κ', Kap.freeze]
    rw [if_pos (⟨trivial, trivial, Nat.zero_le _, by rw [hEl]; exact hj⟩ : True ∧ True ∧ 0 ≤ j ∧ j < ((C.toList.take (n * sz)).toArray).size)]
    simp [hj]
  have hold : ∀ b, b < w.heap.size → w'.heap[b]? = w.heap[b]? := fun b hb => by rw [hw, Array.getElem?_push]; simp [Nat.ne_of_lt hb]
  refine ⟨κ', ?_⟩
  have main := hs.newObj (κ' := κ') (w' := w') (.tok n) hk hnw (fun d => rfl) (fun d i m hi => ?_) ?hF hold (by rw [hw]; simp) ho ht hu
    ⟨w.heap.size, cap, sz, by simp [κ'], hn, ⟨C, e, (0, 0), hnew, hC, fun j _ => by simp⟩, fun o h1 => ?_, fun m hm => ?_⟩ (fun b hb => ?_)
  case hF => exact .inr ⟨0, (C.toList.take (n * sz)).toArray, rfl, C, e, (0, 0), hnew, fun j x hx => by
    rw [List.getElem?_toArray, List.getElem?_take] at hx
    split at hx
    · simpa using hx
    · cases hx⟩
  · exact ⟨main.1, main.2, by simp [κ', hown], by simp [κ'], hFC⟩
  · simp only [κ']
    rw [if_neg]
    rintro ⟨rfl, rfl⟩
    omega
  · simp only [κ', Kap.freeze]
    rw [if_neg (by intro h; have := h.2.2.2; rw [hEl] at this; omega)]
    exact hs.F_new (Nat.le_refl _)
  · simp only [κ']
    rw [if_pos (by simp), if_neg (by omega)]
  · simp [blockOf, κ'] at hb
    omega
/-- The token's elements grow in their block. -/
theorem Sim.growTok {κ : Kap} {s s' : St} {w : World} (hs : Sim κ s w) {d i n m b cap sz : Nat} (hg : s.get (.g d i) = some (.tok n)) (htk : κ.tk d i n = some (⟨b, 0, none⟩, cap, sz)) (hset : s.set (.g d i) (.tok m) = some s')
    (hnm : n < m) (hm : m ≤ cap) (xs : List Value) (hx : xs.length = (m - n) * sz) :
    ∃ κ', Sim κ' s' (w.setCells b (n * sz) xs) ∧ Ext κ s w κ' s' (w.setCells b (n * sz) xs) ∧ κ'.tk d i m = some (⟨b, 0, none⟩, cap, sz) ∧ ∀ j x, xs[j]? = some x → κ'.F ⟨b, n * sz + j, none⟩ = some x := by
  obtain ⟨b', cap', sz', h1, h0, ⟨C, e, fz, h2, h3, h4⟩, h5, h6⟩ := hs.obj d i _ hg
  rw [htk] at h1
  simp only [Option.some.injEq, Prod.mk.injEq, Addr.mk.injEq, and_true] at h1
  obtain ⟨rfl, rfl, rfl⟩ := h1
  obtain ⟨hdd, hii⟩ := hs.get_lt hg
  have hmul : n * sz + (m - n) * sz = m * sz := by rw [← Nat.add_mul]; congr 1; omega
  have hle : m * sz ≤ C.size := by rw [h3]; exact Nat.mul_le_mul_right _ hm
  have hheap := setCells_heap xs w b (n * sz) C e fz h2 (by omega)
  obtain ⟨r1, r2, r3⟩ := setCells_rest xs w b (n * sz)
  -- the frozen cells: those before, and the new ones
  let E : Array Value := ((splice C.toList (n * sz) xs).take (m * sz)).toArray
  have hE : E.size = m * sz := by simp [E, splice_length]; omega
  have hEx : ∀ j, n * sz ≤ j → j < m * sz → E[j]? = xs[j - n * sz]? := by
    intro j hj hj'
    simp only [E, List.getElem?_toArray, List.getElem?_take, hj', ↓reduceIte]
    rw [splice_get _ _ _ (by simp; omega), if_pos ⟨hj, by omega⟩]
  let κ' : Kap := { (κ.freeze b (n * sz) E) with tk := fun d' i' m' => if d' = d ∧ i' = i ∧ m' = m then some (⟨b, 0, none⟩, cap, sz) else κ.tk d' i' m' }
  have hk : KLe κ κ' (s.depth + 1) := by
    refine ⟨fun a v h => (KLe.freeze (fun j hj => h5 j hj) (s.depth + 1)).F a v h, fun _ _ => Nat.le_refl _, fun _ _ _ _ => rfl, fun d' i' m' x _ _ h => ?_⟩
    simp only [κ']
    split
    · rename_i hc
      obtain ⟨rfl, rfl, rfl⟩ := hc
      rw [h6 _ hnm] at h
      cases h
    · exact h
  have hF : ∀ a v, κ'.F a = some v → a.spot = none ∧ (w.setCells b (n * sz) xs).cell? a = some v := by
    intro a v h
    simp only [κ', Kap.freeze] at h
    split at h
    · rename_i hc
      obtain ⟨c1, c2, c3, c4⟩ := hc
      rw [hE] at c4
      refine ⟨c2, ?_⟩
      have ha : a = ⟨b, a.off, none⟩ := by cases a; simp_all
      rw [ha, cell_of_heap (by rw [hheap, if_pos rfl])]
      rw [hEx _ c3 c4] at h
      rw [List.getElem?_toArray, splice_get _ _ _ (by simp; omega), if_pos ⟨c3, by omega⟩]
      exact h
    · obtain ⟨q1, q2⟩ := hs.froz a v h
      refine ⟨q1, ?_⟩
      by_cases hb : a.block = b
      · have ha : a = ⟨b, a.off, none⟩ := by cases a; simp_all
        have hlt : a.off < n * sz := by
          rcases Nat.lt_or_ge a.off (n * sz) with q | q
          · exact q
          · rw [ha, h5 _ q] at h; cases h
        rw [ha, cell_of_heap h2] at q2
        rw [ha, cell_of_heap (by rw [hheap, if_pos rfl]), List.getElem?_toArray, splice_get _ _ _ (by simp; omega), if_neg (by omega)]
        simpa using q2
      · rw [cell_heap_eq (w := w) (by rw [hheap, if_neg hb])]
        exact q2
  refine ⟨κ', ?_⟩
  have main := hs.setObj (κ' := κ') (w' := w.setCells b (n * sz) xs) hg hset hk rfl (fun d' i' m' hne => ?_) hF (fun b' _ hb' => ⟨?_, fun x => ?_⟩) (by rw [setCells_size]; exact Nat.le_refl _) r1 r2 r3
    ⟨b, cap, sz, by simp [κ'], hm, ⟨(splice C.toList (n * sz) xs).toArray, e, fz, by rw [hheap]; simp, by simp [splice_length, h3], by simpa [splice_length] using h4⟩, fun o ho => ?_, fun m' hm' => ?_⟩ (fun b' hb' => ?_)
  · refine ⟨main.1, main.2, by simp [κ'], fun j x hj => ?_⟩
    have hjl : j < xs.length := (List.getElem?_eq_some_iff.1 hj).1
    have q1 : n * sz ≤ n * sz + j := Nat.le_add_right _ _
    have q2 : n * sz + j < m * sz := by omega
    simp only [κ', Kap.freeze]
    rw [if_pos (⟨trivial, trivial, q1, by rw [hE]; exact q2⟩ : True ∧ True ∧ n * sz ≤ n * sz + j ∧ n * sz + j < E.size), hEx _ q1 q2, Nat.add_sub_cancel_left, hj]
  · simp only [κ']
    rw [if_neg]
    rintro ⟨rfl, rfl, _⟩
    exact hne ⟨rfl, rfl⟩
  · rw [hheap, if_neg]
    rintro rfl
    exact hb' (by simp [blockOf, htk])
  · have : b' ≠ b := by rintro rfl; exact hb' (by simp [blockOf, htk])
    simp [κ', Kap.freeze, this]
  · simp only [κ', Kap.freeze]
    rw [if_neg]
    · exact h5 o (by omega)
    · rintro ⟨_, _, _, q⟩
      rw [hE] at q
      omega
  · simp only [κ']
    rw [if_neg (by omega)]
    exact h6 m' (by omega)
  · left
    simp [blockOf, κ'] at hb'
    simp [blockOf, htk, hb']

/-- The token's elements move to a new block. -/
theorem Sim.moveTok {κ : Kap} {s s' : St} {w w' : World} (hs : Sim κ s w) {d i n m : Nat} (hg : s.get (.g d i) = some (.tok n)) (hset : s.set (.g d i) (.tok m) = some s') (hnm : n < m)
    (C : Array Value) (e : TypeId) (cap sz : Nat) (hC : C.size = cap * sz) (hm : m ≤ cap) (hw : w'.heap = w.heap.push (.cells C e (0, 0))) (ho : w'.os = w.os) (ht : w'.tape = w.tape) (hu : w'.output = w.output) :
    ∃ κ', Sim κ' s' w' ∧ Ext κ s w κ' s' w' ∧ κ'.tk d i m = some (⟨w.heap.size, 0, none⟩, cap, sz) ∧ ∀ j, j < m * sz → κ'.F ⟨w.heap.size, j, none⟩ = C[j]? := by
  obtain ⟨b, cap', sz', h1, h0, ⟨C', e', fz', h2, h3, h4⟩, h5, h6⟩ := hs.obj d i _ hg
  obtain ⟨hdd, hii⟩ := hs.get_lt hg
  have hle : m * sz ≤ C.size := by rw [hC]; exact Nat.mul_le_mul_right _ hm
  have hEl : ((C.toList.take (m * sz)).toArray).size = m * sz := by simp; omega
  have hold : ∀ b, b < w.heap.size → w'.heap[b]? = w.heap[b]? := fun b hb => by rw [hw, Array.getElem?_push]; simp [Nat.ne_of_lt hb]
  have hnew : w'.heap[w.heap.size]? = some (.cells C e (0, 0)) := by rw [hw]; simp
  let κ' : Kap := { (κ.freeze w.heap.size 0 (C.toList.take (m * sz)).toArray) with tk := fun d' i' m' => if d' = d ∧ i' = i ∧ m' = m then some (⟨w.heap.size, 0, none⟩, cap, sz) else κ.tk d' i' m' }
  have hk : KLe κ κ' (s.depth + 1) := by
    refine ⟨fun a v h => (KLe.freeze (fun j hj => hs.F_new (Nat.le_refl _)) (s.depth + 1)).F a v h, fun _ _ => Nat.le_refl _, fun _ _ _ _ => rfl, fun d' i' m' x _ _ h => ?_⟩
    simp only [κ']
    split
    · rename_i hc
      obtain ⟨rfl, rfl, rfl⟩ := hc
      rw [h6 _ hnm] at h
      cases h
    · exact h
  have hFC : ∀ j, j < m * sz → κ'.F ⟨w.heap.size, j, none⟩ = C[j]? := by
    intro j hj
    simp only [κ', Kap.freeze]
    rw [if_pos (⟨trivial, trivial, Nat.zero_le _, by rw [hEl]; exact hj⟩ : True ∧ True ∧ 0 ≤ j ∧ j < ((C.toList.take (m * sz)).toArray).size)]
    simp [hj]
  refine ⟨κ', ?_⟩
  have main := hs.setObj (κ' := κ') (w' := w') hg hset hk rfl (fun d' i' m' hne => ?_) (fun a v h => ?_) (fun b' hb' _ => ⟨hold b' hb', fun x => ?_⟩) (by rw [hw]; simp) ho ht hu
    ⟨w.heap.size, cap, sz, by simp [κ'], hm, ⟨C, e, (0, 0), hnew, hC, fun j _ => by simp⟩, fun o ho' => ?_, fun m' hm' => ?_⟩ (fun b' hb' => ?_)
  · exact ⟨main.1, main.2, by simp [κ'], hFC⟩
  · simp only [κ']
    rw [if_neg]
    rintro ⟨rfl, rfl, _⟩
    exact hne ⟨rfl, rfl⟩
  · simp only [κ', Kap.freeze] at h
    split at h
    · rename_i hc
      obtain ⟨c1, c2, c3, c4⟩ := hc
      rw [hEl] at c4
      refine ⟨c2, ?_⟩
      have ha : a = ⟨w.heap.size, a.off, none⟩ := by cases a; simp_all
      rw [ha, cell_of_heap hnew]
      rw [List.getElem?_toArray, List.getElem?_take] at h
      simpa [c4] using h
    · obtain ⟨q1, q2⟩ := hs.froz a v h
      exact ⟨q1, by rw [cell_heap_eq (hold _ (cell_lt q2))]; exact q2⟩
  · simp [κ', Kap.freeze, Nat.ne_of_lt hb']
  · simp only [κ', Kap.freeze]
    rw [if_neg (by intro h; have := h.2.2.2; rw [hEl] at this; omega)]
    exact hs.F_new (Nat.le_refl _)
  · simp only [κ']
    rw [if_neg (by omega)]
    exact h6 m' (by omega)
  · right
    simp [blockOf, κ'] at hb'
    omega

/-! ### Frames -/
/-- The frame of a call. -/
def St.push (s : St) : St := { own := [], up := s.own :: s.up, ro := s.ro }
theorem St.push_depth (s : St) : s.push.depth = s.depth + 1 := by simp [St.push, St.depth]; omega
theorem St.push_fr (s : St) (d : Nat) : s.push.fr d = if d = s.depth + 1 then some [] else s.fr d := by
  unfold St.fr
  rw [St.push_depth]
  by_cases h1 : d = s.depth + 1
  · simp [h1, St.push]
  · simp only [h1, ↓reduceIte]
    by_cases h2 : d = s.depth
    · simp [h2, St.push]
    · by_cases h3 : d < s.depth
      · have h4 : d < s.depth + 1 := by omega
        simp only [h2, h3, h4, ↓reduceIte, St.push]
        rw [show s.depth + 1 - 1 - d = (s.depth - 1 - d) + 1 by omega, List.cons_append, List.getElem?_cons_succ]
      · have h4 : ¬ d < s.depth + 1 := by omega
        simp [h2, h3, h4]
theorem St.push_get (s : St) (d i : Nat) : s.push.get (.g d i) = s.get (.g d i) := by
  rw [St.get_g, St.get_g, St.push_fr]
  by_cases h : d = s.depth + 1
  · subst h
    have h1 : s.fr (s.depth + 1) = none := by
      have q : ¬ s.depth + 1 < s.depth := by omega
      simp [St.fr, q]
    simp [h1]
  · simp [h]

theorem Sim.push {κ : Kap} {s : St} {w : World} (hs : Sim κ s w) : ∃ κ', Sim κ' s.push w ∧ KLe κ κ' (s.depth + 1) ∧ κ'.F = κ.F ∧ ∀ d i o, s.get (.g d i) = some o → blockOf κ' d i o = blockOf κ d i o := by
  refine ⟨{ κ with n := fun d => if d = s.depth + 1 then 0 else κ.n d }, ?_⟩
  have hk : KLe κ { κ with n := fun d => if d = s.depth + 1 then 0 else κ.n d } (s.depth + 1) := by
    refine ⟨fun _ _ h => h, fun d hd => ?_, fun _ _ _ _ => rfl, fun _ _ _ _ _ _ h => h⟩
    simp only
    rw [if_neg (by omega)]
    exact Nat.le_refl _
  have key : ∀ d i o, s.get (.g d i) = some o → OR { κ with n := fun d => if d = s.depth + 1 then 0 else κ.n d } d i w o ∧ blockOf { κ with n := fun d => if d = s.depth + 1 then 0 else κ.n d } d i o = blockOf κ d i o := fun d i o h =>
    (hs.obj d i o h).keep (hs.lt_n h) (hk.low (by have := St.get_depth h; omega)) (fun m => rfl) (fun b _ => ⟨rfl, fun _ => rfl⟩)
  refine ⟨⟨hs.froz, fun d l h => ?_, fun d i o h => ?_, fun d i o d' i' o' b h h' e e' => ?_⟩, hk, rfl, fun d i o h => (key d i o h).2⟩
  · rw [St.push_fr] at h
    split at h
    · rename_i hd; simp only [Option.some.injEq] at h; simp [← h, hd]
    · rename_i hd; simp only [hd, ↓reduceIte]; exact hs.len d l h
  · rw [St.push_get] at h
    exact (key d i o h).1
  · rw [St.push_get] at h h'
    rw [(key d i o h).2] at e
    rw [(key d' i' o' h').2] at e'
    exact hs.inj d i o d' i' o' b h h' e e'

theorem St.pop_facts {s : St} {own : List AObj} {up : List (List AObj)} (h : s.up = own :: up) : ({ own, up, ro := s.ro } : St).push = { s with own := [] } := by
  simp [St.push, h]
theorem St.pop_get {s : St} {own : List AObj} {up : List (List AObj)} (h : s.up = own :: up) {d i : Nat} {o : AObj} (hg : ({ own, up, ro := s.ro } : St).get (.g d i) = some o) : s.get (.g d i) = some o := by
  have hd := St.get_depth hg
  rw [← St.push_get, St.pop_facts h] at hg
  have hsd : s.depth = ({ own, up, ro := s.ro } : St).depth + 1 := by simp [St.depth, h]; omega
  have hne : d ≠ s.depth := by omega
  unfold St.get at hg ⊢
  have e : ({ s with own := [] } : St).depth = s.depth := rfl
  rw [e] at hg
  simp only [hne, ↓reduceIte] at hg ⊢
  exact hg
theorem Sim.pop {κ : Kap} {s : St} {w : World} (hs : Sim κ s w) {own : List AObj} {up : List (List AObj)} (h : s.up = own :: up) : Sim κ { own, up, ro := s.ro } w := by
  refine ⟨hs.froz, fun d l hd => ?_, fun d i o hg => hs.obj d i o (St.pop_get h hg), fun d i o d' i' o' b hg hg' => hs.inj d i o d' i' o' b (St.pop_get h hg) (St.pop_get h hg')⟩
  have hsd : s.depth = ({ own, up, ro := s.ro } : St).depth + 1 := by simp [St.depth, h]; omega
  have hlt : d ≤ ({ own, up, ro := s.ro } : St).depth := by
    rcases Nat.lt_or_ge ({ own, up, ro := s.ro } : St).depth d with q | q
    · have q1 : d ≠ ({ own, up, ro := s.ro } : St).depth := by omega
      have q2 : ¬ d < ({ own, up, ro := s.ro } : St).depth := by omega
      simp [St.fr, q1, q2] at hd
    · exact q
  have q : ({ own, up, ro := s.ro } : St).push.fr d = some l := by rw [St.push_fr, if_neg (by omega)]; exact hd
  rw [St.pop_facts h] at q
  refine hs.len d l ?_
  unfold St.fr at q ⊢
  have e : ({ s with own := [] } : St).depth = s.depth := rfl
  rw [e] at q
  have hne : d ≠ s.depth := by omega
  simp only [hne, ↓reduceIte] at q ⊢
  exact q

/-- No object at all. -/
theorem Sim.empty {κ : Kap} {s : St} {w : World} (hs : Sim κ s w) : Sim { κ with n := fun _ => 0 } { own := [], up := [], ro := [] } w := by
  have hno : ∀ d i, ({ own := [], up := [], ro := [] } : St).get (.g d i) = none := by intro d i; simp [St.get]
  refine ⟨hs.froz, fun d l h => ?_, fun d i o h => ?_, fun d i o d' i' o' b h => ?_⟩
  · unfold St.fr at h
    simp at h
    simp [h]
  · rw [hno] at h; cases h
  · rw [hno] at h; cases h
end Go.Ab
end
section
/- When abstract code is the machine's own: a test by computation. -/
namespace Go.Ab
set_option linter.unusedSimpArgs false

def okNilSl : List AV → Gr → Value → Bool
  | [], .nil, .slice none 0 0 => true
  | _, _, _ => false
theorem okNilSl_sound {es : List AV} {g : Gr} {x : Value} (h : okNilSl es g x = true) : es = [] ∧ g = .nil ∧ x = .slice none 0 0 := by
  unfold okNilSl at h
  split at h
  · exact ⟨rfl, rfl, rfl⟩
  · cases h

def okNilp : Value → Bool
  | .pointer none => true
  | _ => false
theorem okNilp_sound {x : Value} (h : okNilp x = true) : x = .pointer none := by
  unfold okNilp at h
  split at h
  · rfl
  · cases h
def okNilm : Value → Bool
  | .map none => true
  | _ => false
theorem okNilm_sound {x : Value} (h : okNilm x = true) : x = .map none := by
  unfold okNilm at h
  split at h
  · rfl
  · cases h
mutual
def okVal : AV → Value → Bool
  | .bool a, .bool b => a == b
  | .int k a, .int k' b => decide (k = k') && a == b
  | .str bs, .string s => bs == s.data.toList.map UInt8.toNat
  | .sl _ es g, x => okNilSl es g x
  | .nilp, x => okNilp x
  | .nilf, .nilFunc => true
  | .nilmap, x => okNilm x
  | .nili, .nilIface => true
  | .agg cs, .agg xs => okVals cs xs.toList
  | .tup [], .tuple xs => xs.size == 0
  | _, _ => false
def okVals : List AV → List Value → Bool
  | [], [] => true
  | c :: cs, x :: xs => okVal c x && okVals cs xs
  | _, _ => false
end

mutual
theorem okVal_sound : ∀ (v : AV) (x : Value), okVal v x = true → (∀ κ D, VR κ D v x) ∧ v.refless = true
  | .bool a, x, h => by cases x <;> simp [okVal] at h; subst h; exact ⟨fun _ _ => .bool a, rfl⟩
  | .int k a, x, h => by cases x <;> simp [okVal] at h; obtain ⟨rfl, rfl⟩ := h; exact ⟨fun _ _ => .int k a, rfl⟩
  | .str bs, x, h => by cases x <;> simp [okVal] at h; exact ⟨fun _ _ => .str bs _ h.symm, rfl⟩
  | .sl sz es g, x, h => by
    simp only [okVal] at h
    obtain ⟨rfl, rfl, rfl⟩ := okNilSl_sound h
    exact ⟨fun _ _ => .slNil sz, rfl⟩
  | .nilp, x, h => by
    simp only [okVal] at h
    rw [okNilp_sound h]
    exact ⟨fun _ _ => .nilp, rfl⟩
  | .nilf, x, h => by cases x <;> simp [okVal] at h; exact ⟨fun _ _ => .nilf, rfl⟩
  | .nilmap, x, h => by
    simp only [okVal] at h
    rw [okNilm_sound h]
    exact ⟨fun _ _ => .nilmap, rfl⟩
  | .nili, x, h => by cases x <;> simp [okVal] at h; exact ⟨fun _ _ => .nili, rfl⟩
  | .agg cs, x, h => by
    cases x <;> simp [okVal] at h
    rename_i xs
    obtain ⟨h1, h2⟩ := okVals_sound cs xs.toList h
    exact ⟨fun κ D => by simpa using VR.agg cs xs.toList (h1 κ D).1 (h1 κ D).2, by simpa [AV.refless] using h2⟩
  | .tup cs, x, h => by
    cases cs with
    | nil =>
      cases x <;> simp [okVal] at h
      rename_i xs
      subst h
      exact ⟨fun κ D => .tup [] [] rfl (fun j c x hc => by simp at hc), rfl⟩
    | cons c cs => cases x <;> simp [okVal] at h
  | .dead, x, h => by cases x <;> simp [okVal] at h
  | .msl .., x, h => by cases x <;> simp [okVal] at h
  | .ref .., x, h => by cases x <;> simp [okVal] at h
  | .vptr .., x, h => by cases x <;> simp [okVal] at h
  | .fn .., x, h => by cases x <;> simp [okVal] at h
  | .map .., x, h => by cases x <;> simp [okVal] at h
  | .iface .., x, h => by cases x <;> simp [okVal] at h
theorem okVals_sound : ∀ (cs : List AV) (xs : List Value), okVals cs xs = true → (∀ κ D, VRs κ D cs xs) ∧ AV.reflessL cs = true
  | [], [], _ => ⟨fun κ D => .nil κ D, rfl⟩
  | [], x :: xs, h => by simp [okVals] at h
  | c :: cs, [], h => by simp [okVals] at h
  | c :: cs, x :: xs, h => by
    simp only [okVals, Bool.and_eq_true] at h
    obtain ⟨h1, h2⟩ := okVal_sound c x h.1
    obtain ⟨h3, h4⟩ := okVals_sound cs xs h.2
    exact ⟨fun κ D => .cons (h1 κ D) (h3 κ D), by simp [AV.reflessL, h2, h4]⟩
end

def okOpd : AOpd → Operand → Bool
  | .t n, .tmp m => n == m
  | .c v, .const x => okVal v x
  | .c (.fn f []), .func g => f == g
  | .g n, .global m => n == m
  | .at n _ _, .tmp m => n == m
  | _, _ => false
def okOpds : List AOpd → List Operand → Bool
  | [], [] => true
  | x :: xs, y :: ys => okOpd x y && okOpds xs ys
  | _, _ => false
def okOpdO : Option AOpd → Option Operand → Bool
  | none, none => true
  | some x, some y => okOpd x y
  | _, _ => false

/-- What is known of the tables among the package-level variables. -/
def GOK (κ : Kap) (G : Nat → AV) : Prop := ∀ n, VR κ 0 (G n) (.pointer (some ⟨n, 0, none⟩)) ∧ (G n).refless = true
theorem GOK.mono {κ κ' : Kap} {G : Nat → AV} (h : GOK κ G) {D : Nat} (k : KLe κ κ' D) : GOK κ' G := fun n => ⟨(h n).1.mono (k.low (Nat.zero_le D)), (h n).2⟩

theorem opnd_VR {κ : Kap} {s : St} {fr : Nat → AV} {a : Act} {G : Nat → AV} (hf : FR κ s fr a) (hG : GOK κ G) {x : AOpd} {y : Operand} (h : okOpd x y = true) : VR κ (s.depth + 1) ((opnd G fr x).pub s.depth) (a.eval y) := by
  cases x with
  | t n =>
    cases y <;> simp [okOpd] at h
    subst h
    exact hf n
  | c v =>
    cases y with
    | const x =>
      have h' : okVal v x = true := by cases v <;> simpa [okOpd] using h
      obtain ⟨h1, h2⟩ := okVal_sound v x h'
      simp only [opnd, refless_pub h2, Act.eval]
      exact h1 _ _
    | func g =>
      cases v <;> simp [okOpd] at h
      rename_i f caps
      cases caps with
      | nil =>
        simp [okOpd] at h
        subst h
        exact .fn f [] [] rfl (fun j c x hc => by simp at hc)
      | cons c cs => simp [okOpd] at h
    | tmp m => cases v <;> simp [okOpd] at h
    | global m => cases v <;> simp [okOpd] at h
  | g n =>
    cases y <;> simp [okOpd] at h
    subst h
    obtain ⟨h1, h2⟩ := hG n
    simp only [opnd, refless_pub h2, Act.eval]
    exact h1.up (Nat.zero_le _)
  | «at» n b off =>
    cases y <;> simp [okOpd] at h
    subst h
    simp only [opnd]
    rcases atV_or (fr n) (fr b) off with e | ⟨e, _⟩
    · rw [e]; exact .dead _
    · rw [e]; exact hf n
  | adv b off => cases y <;> simp [okOpd] at h

/-! ### Inversions -/
section
variable {κ : Kap} {D : Nat} {x : Value}
theorem VR.int_inv {k : IntKind} {n : Int} (h : VR κ D (.int k n) x) : x = .int k n := by cases h; rfl
theorem VR.bool_inv {b : Bool} (h : VR κ D (.bool b) x) : x = .bool b := by cases h; rfl
theorem VR.str_inv {bs : List Nat} (h : VR κ D (.str bs) x) : ∃ s, x = .string s ∧ s.data.toList.map UInt8.toNat = bs := by cases h; exact ⟨_, rfl, by assumption⟩
theorem VR.agg_inv {cs : List AV} (h : VR κ D (.agg cs) x) : ∃ xs : List Value, x = .agg xs.toArray ∧ VRs κ D cs xs := by cases h; exact ⟨_, rfl, by assumption, by assumption⟩
theorem VR.tup_inv {cs : List AV} (h : VR κ D (.tup cs) x) : ∃ xs : List Value, x = .tuple xs.toArray ∧ VRs κ D cs xs := by cases h; exact ⟨_, rfl, by assumption, by assumption⟩
theorem VR.fn_inv {f : Nat} {cs : List AV} (h : VR κ D (.fn f cs) x) : ∃ xs : List Value, x = .func (.func f) #[] xs.toArray ∧ VRs κ D cs xs := by cases h; exact ⟨_, rfl, by assumption, by assumption⟩
theorem VR.vptr_inv {cs : List AV} (h : VR κ D (.vptr cs) x) : ∃ (a : Addr) (vals : Nat → Value), x = .pointer (some a) ∧ a.spot = none ∧ (∀ j, j < cs.length → κ.F (a.add j) = some (vals j)) ∧ ∀ (j : Nat) (c : AV), cs[j]? = some c → VR κ D c (vals j) := by
  cases h; exact ⟨_, _, rfl, by assumption, by assumption, by assumption⟩
theorem VR.ref_inv {d i off : Nat} (h : VR κ D (.ref (.g d i) off) x) : x = .pointer (some ⟨κ.loc d i, off, none⟩) ∧ d < D ∧ i < κ.n d := by cases h; exact ⟨rfl, by assumption, by assumption⟩
theorem VR.msl_inv {d i off len cap sz : Nat} (h : VR κ D (.msl (.g d i) off len cap sz) x) : x = .slice (some ⟨κ.loc d i, off, none⟩) len cap ∧ d < D ∧ i < κ.n d ∧ len ≤ cap := by cases h; exact ⟨rfl, by assumption, by assumption, by assumption⟩
theorem VR.iface_inv {t : Nat} {v : AV} (h : VR κ D (.iface t v) x) : ∃ y, x = .iface t y ∧ VR κ D v y := by cases h; exact ⟨_, rfl, by assumption⟩
end

theorem VR.cells {κ : Kap} {D : Nat} {v : AV} {x : Value} (h : VR κ D v x) (hv : v.isVal = true) : VRs κ D v.cells x.cells.toList := by
  cases h <;> simp [AV.isVal] at hv <;> simp only [AV.cells, Value.cells]
  case agg cs xs hl hv' => exact ⟨by simpa using hl, by simpa using hv'⟩
  all_goals
    refine .cons ?_ (.nil _ _)
    first
      | exact .bool _ | exact .int _ _ | exact .str _ _ (by assumption) | exact .slNil _
      | exact .sl _ _ _ _ _ _ (by assumption) (by assumption) (by assumption) (by assumption) (by assumption) (by assumption) (by assumption)
      | exact .msl _ _ _ _ _ _ (by assumption) (by assumption) (by assumption) | exact .ref _ _ _ (by assumption) (by assumption)
      | exact .vptr _ _ _ (by assumption) (by assumption) (by assumption) | exact .nilp | exact .fn _ _ _ (by assumption) (by assumption)
      | exact .nilf | exact .nilmap | exact .map _ _ (by assumption) (by assumption) | exact .iface _ _ _ (by assumption) | exact .nili
theorem isVal_pub (v : AV) (d : Nat) : (v.pub d).isVal = v.isVal := by cases v <;> rfl
theorem cells_pub (v : AV) (d : Nat) : (v.pub d).cells.length = v.cells.length := by cases v <;> rfl
theorem VR.oneCell {κ : Kap} {D : Nat} {v : AV} {x : Value} (h : VR κ D v x) (hv : v.isCell = true) : x.oneCell' = true := by
  cases h <;> simp [AV.isCell] at hv <;> rfl
end Go.Ab
end
