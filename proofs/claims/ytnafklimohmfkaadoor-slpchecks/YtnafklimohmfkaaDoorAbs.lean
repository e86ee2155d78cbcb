/- The abstract evaluator: values as trees, a small stack of mutable objects, and the abstract code of a Go function; nothing of the machine stands in this file but its integer kinds and operators. -/
import Derived.Calls
import Derived.Below
namespace Go.Ab

/-- Where a mutable object lies: in the running frame, or in the frame at a depth. -/
inductive Loc where
  | l (i : Nat)
  | g (d i : Nat)
  deriving DecidableEq, Inhabited

/-- What is known of the room behind a slice that is only read. -/
inductive Gr where
  | nil | exact | any
  | buf (a : Loc)
  deriving Inhabited

inductive AV where
  | dead
  | bool (b : Bool)
  | int (k : IntKind) (n : Int)
  | str (s : List Nat)
  | sl (sz : Nat) (es : List AV) (g : Gr)
  | msl (a : Loc) (off len cap sz : Nat)
  | ref (a : Loc) (off : Nat)
  | vptr (cs : List AV)
  | nilp
  | fn (f : Nat) (caps : List AV)
  | nilf
  | map (a : Loc)
  | nilmap
  | iface (t : Nat) (v : AV)
  | nili
  | agg (cs : List AV)
  | tup (vs : List AV)
  deriving Inhabited

inductive AObj where
  | cells (cs : List AV)
  | tok (n : Nat)
  | map (es : List (AV × AV))
  | gone
  deriving Inhabited

/-- The mutable objects: the running frame's, those of the frames behind it, and frames that may only be read. -/
structure St where
  own : List AObj
  up : List (List AObj)
  ro : List (List AObj)
  deriving Inhabited

def St.depth (s : St) : Nat := s.up.length + s.ro.length

inductive Res where
  | fail
  | ok (v : AV) (s : St)
  | panic (v : AV) (s : St)
  deriving Inhabited

/-- The temporaries: a tree, temporary 0 at the root, the odd ones to the left. -/
inductive Tr where
  | e
  | n (l : Tr) (v : AV) (r : Tr)
  deriving Inhabited

def Tr.get : Tr → Nat → AV
  | .e, _ => .dead
  | .n l v r, i => bif Nat.beq i 0 then v else bif Nat.beq (i % 2) 1 then l.get ((i - 1) / 2) else r.get ((i - 1) / 2)

/-- A temporary is set; what follows gets the tree itself. -/
def Tr.setK : Nat → Nat → AV → (Tr → Res) → Tr → Res
  | 0, _, _, _, _ => .fail
  | d + 1, i, v, k, .e =>
    bif Nat.beq i 0 then k (.n .e v .e)
    else bif Nat.beq (i % 2) 1 then Tr.setK d ((i - 1) / 2) v (fun l => k (.n l .dead .e)) .e
    else Tr.setK d ((i - 1) / 2) v (fun r => k (.n .e .dead r)) .e
  | d + 1, i, v, k, .n l x r =>
    bif Nat.beq i 0 then k (.n l v r)
    else bif Nat.beq (i % 2) 1 then Tr.setK d ((i - 1) / 2) v (fun l => k (.n l x r)) l
    else Tr.setK d ((i - 1) / 2) v (fun r => k (.n l x r)) r

/-- Which temporaries live on. -/
inductive Mk where
  | e
  | n (l : Mk) (b : Bool) (r : Mk)
  deriving Inhabited

def Tr.maskK : Mk → (Tr → Res) → Tr → Res
  | .e, k, _ => k .e
  | .n ml _ mr, k, .e => Tr.maskK ml (fun l => Tr.maskK mr (fun r => k (.n l .dead r)) .e) .e
  | .n ml b mr, k, .n l v r => Tr.maskK ml (fun l => Tr.maskK mr (fun r => k (.n l (bif b then v else .dead) r)) r) l

inductive AOpd where
  | t (n : Nat)
  | c (v : AV)
  | g (n : Nat)
  | at (t b off : Nat)   -- t's, where it is b's, moved by off (else nothing)
  | adv (b off : Nat)    -- b's, moved by off
  deriving Inhabited

/-- The keys of a map. -/
inductive KD where
  | int (k : IntKind) | str | bool
  deriving DecidableEq, Inhabited

/-- What is compared. -/
inductive EK where
  | bool | slice | ptr | func | map | iface | agg
  deriving DecidableEq, Inhabited

inductive AOp where
  | move (x : AOpd)
  | moveF (x : AOpd)
  | pick (c a b : AOpd)
  | alloc (zero : List AV)
  | boxRo (x : AOpd)
  | boxMut (x : AOpd)
  | build (zero : List AV) (parts : List (Nat × Nat × AOpd))
  | buildSlice (sz : Nat) (parts : List AOpd)
  | load (n : Option Nat) (a : AOpd)
  | store (n : Nat) (a v : AOpd)
  | nilCheck (x : AOpd)
  | bin (op : BinOp) (x y : AOpd)
  | eq (neg : Bool) (e : EK) (x y : AOpd)
  | un (op : UnOp) (x : AOpd)
  | convInt (k : IntKind) (x : AOpd)
  | convId (x : AOpd)
  | bytesToStr (x : AOpd)
  | strToBytes (x : AOpd)
  | mkIface (t : Nat) (x : AOpd)
  | mkFunc (f : Nat) (caps : List AOpd)
  | makeSlice (zero : List AV) (bytes : Nat) (l c : AOpd)
  | subStr (x : AOpd) (lo hi : Option AOpd)
  | slice (sz : Nat) (x : AOpd) (lo hi mx : Option AOpd)
  | fieldAddr (off : Nat) (a : AOpd)
  | field (off : Nat) (n : Option Nat) (x : AOpd)
  | idxSl (sz : Nat) (x i : AOpd)
  | idxArr (sz len : Nat) (x i : AOpd)
  | idxStr (x i : AOpd)
  | idxAgg (sz len : Nat) (n : Option Nat) (x i : AOpd)
  | extract (x : AOpd) (i : Nat)
  | call (f : Nat) (args : List AOpd)
  | callV (f : AOpd) (args : List AOpd)
  | callP (f : Nat) (args : List AOpd)
  | callVP (f : AOpd) (args : List AOpd)
  | len (str : Bool) (x : AOpd)
  | append (sz bytes : Nat) (at_ : Option AOpd) (s x : AOpd)
  | copy (sz : Nat) (d s : AOpd)
  | min (xs : List AOpd)
  | max (xs : List AOpd)
  | makeMap (at_ : Option AOpd)
  | mapPut (kd : KD) (m k v : AOpd)
  | lookup (kd : KD) (zero : AV) (ok : Bool) (m k : AOpd)
  | nilI (neg : Bool) (x : AOpd)
  | callC (ks : List (Option Nat × AOpd)) (f : Nat) (args : List AOpd)
  | callVC (ks : List (Option Nat × AOpd)) (f : AOpd) (args : List AOpd)
  | no
  deriving Inhabited

structure AOper where
  dst : Option Nat
  guard : Option (Nat × Bool)
  op : AOp
  deriving Inhabited

inductive ACode where
  | skip
  | region (chk : Option (List (AOpd × Nat × AOpd × Nat))) (ops : List AOper)
  | seq (a b : ACode)
  | mask (m : Mk) (a : ACode)
  | cond (c : AOpd) (thn els : ACode)
  | block (id : Nat) (body : ACode)
  | loop (keep : Mk) (body : ACode)
  | exit (id : Nat)
  | scope (body : ACode)
  | ret
  deriving Inhabited

inductive ARes where
  | t (n : Nat)
  | cell (a : Nat) (n : Option Nat)
  deriving Inhabited

structure AFn where
  np : Nat
  nt : Nat
  results : List ARes
  keep : Bool
  body : ACode
  deriving Inhabited

/-! ### Values -/
mutual
def AV.refless : AV → Bool
  | .msl .. | .ref .. | .map _ => false
  | .sl _ _ (.buf _) => false
  | .vptr cs | .fn _ cs | .agg cs | .tup cs => AV.reflessL cs
  | .iface _ v => v.refless
  | _ => true
def AV.reflessL : List AV → Bool
  | [] => true
  | v :: vs => v.refless && AV.reflessL vs
end

def Loc.low (d : Nat) : Loc → Bool
  | .l _ => false
  | .g e _ => Nat.ble e d
mutual
/-- Does it refer to no object of a frame above a depth? -/
def AV.low (d : Nat) : AV → Bool
  | .msl a _ _ _ _ => a.low d
  | .ref a _ => a.low d
  | .map a => a.low d
  | .sl _ _ (.buf a) => a.low d
  | .vptr cs | .fn _ cs | .agg cs | .tup cs => AV.lowL d cs
  | .iface _ v => v.low d
  | _ => true
def AV.lowL (d : Nat) : List AV → Bool
  | [] => true
  | v :: vs => v.low d && AV.lowL d vs
end

def Loc.pub (d : Nat) : Loc → Loc
  | .l i => .g d i
  | a => a
def Gr.pub (d : Nat) : Gr → Gr
  | .buf a => .buf (a.pub d)
  | g => g
/-- A temporary's value as every frame reads it. -/
def AV.pub (d : Nat) : AV → AV
  | .sl sz es g => .sl sz es (g.pub d)
  | .msl a off len cap sz => .msl (a.pub d) off len cap sz
  | .ref a off => .ref (a.pub d) off
  | .map a => .map (a.pub d)
  | v => v

def AV.cells : AV → List AV
  | .agg cs => cs
  | v => [v]

def chunk1 : AV → AV
  | .agg xs => .agg [.agg xs]
  | c => c
/-- A row of cells as elements of so many cells each. -/
def chunkHd (sz : Nat) (cs : List AV) : AV :=
  match sz with
  | 1 => chunk1 (cs.getD 0 .dead)
  | _ => .agg (cs.take sz)
def chunk (sz : Nat) : Nat → List AV → List AV
  | 0, _ => []
  | n + 1, cs => chunkHd sz cs :: chunk sz n (cs.drop sz)

/-! ### Objects -/
def St.get (s : St) : Loc → Option AObj
  | .l i => s.own[i]?
  | .g d i => if d = s.depth then s.own[i]? else if d < s.depth then ((s.up ++ s.ro)[s.depth - 1 - d]?).bind (·[i]?) else none

def St.set (s : St) (a : Loc) (o : AObj) : Option St :=
  match a with
  | .l i => some { s with own := s.own.set i o }
  | .g d i =>
    if d = s.depth then some { s with own := s.own.set i o }
    else if d < s.depth ∧ s.ro.length ≤ d then some { s with up := s.up.modify (s.depth - 1 - d) (·.set i o) }
    else none

/-- Is it an object of the running frame? -/
def St.isOwn (s : St) : Loc → Bool
  | .l _ => true
  | .g d _ => d = s.depth

/-- May these values be stored in an object? -/
def St.takes (s : St) (a : Loc) (vs : List AV) : Bool :=
  s.isOwn a || AV.reflessL vs || (match a with
    | .g d _ => AV.lowL d vs
    | .l _ => false)

def St.new (s : St) (o : AObj) : St := { s with own := s.own ++ [o] }

/-- A new object in the frame of another one. -/
def St.newBy (s : St) (a : Loc) (o : AObj) : Option (Loc × St) :=
  match a with
  | .l _ => some (.l s.own.length, s.new o)
  | .g d _ =>
    if d = s.depth then some (.l s.own.length, s.new o)
    else if d < s.depth ∧ s.ro.length ≤ d then
      match s.up[s.depth - 1 - d]? with
      | some l => some (.g d l.length, { s with up := s.up.modify (s.depth - 1 - d) (· ++ [o]) })
      | none => none
    else none

def locSame : Loc → Loc → Bool
  | .l i, .l j => Nat.beq i j
  | .g d i, .g e j => Nat.beq d e && Nat.beq i j
  | _, _ => false
def advV : AV → Nat → AV
  | .ref a o, off => .ref a (o + off)
  | _, _ => .dead
def atV : AV → AV → Nat → AV
  | .ref a o, .ref a' o', off => bif locSame a a' && Nat.beq o (o' + off) then .ref a o else .dead
  | _, _, _ => .dead
theorem locSame_eq {a b : Loc} (h : locSame a b = true) : a = b := by
  cases a <;> cases b <;> simp [locSame] at h
  · rw [h]
  · rw [h.1, h.2]
theorem atV_or (x y : AV) (off : Nat) : atV x y off = .dead ∨ (atV x y off = x ∧ atV x y off = advV y off) := by
  cases x <;> cases y <;> try exact .inl rfl
  · rename_i a o a' o'
    have e : atV (.ref a o) (.ref a' o') off = bif locSame a a' && Nat.beq o (o' + off) then .ref a o else .dead := rfl
    rw [e]
    cases h : locSame a a' && Nat.beq o (o' + off) with
    | false => exact .inl rfl
    | true =>
      simp only [Bool.and_eq_true] at h
      have h1 := locSame_eq h.1
      have h2 := Nat.eq_of_beq_eq_true h.2
      subst h1 h2
      exact .inr ⟨rfl, rfl⟩
def opnd (G : Nat → AV) (fr : Nat → AV) : AOpd → AV
  | .t n => fr n
  | .c v => v
  | .g n => G n
  | .at t b off => atV (fr t) (fr b) off
  | .adv b off => advV (fr b) off

def putK (fr : Tr) (d : Option Nat) (v : AV) (k : Tr → Res) : Res :=
  match d with
  | some n => fr.setK 12 n v k
  | none => k fr

/-- How far what has been reckoned is reckoned out before it is handed on: it changes nothing but the kernel's pace. -/
structure Force where
  v0 : AV → (AV → Res) → Res
  v1 : AV → (AV → Res) → Res
  l : List AV → (List AV → Res) → Res
  s : St → (St → Res) → Res
def Force.not : Force := { v0 := fun v k => k v, v1 := fun v k => k v, l := fun v k => k v, s := fun v k => k v }

def asNat : AV → Option Nat
  | .int _ n => if 0 ≤ n then some n.toNat else none
  | _ => none

/-- The elements of a slice, as values that hold no reference. -/
def elemsOf (s : St) : AV → Option (Nat × List AV)
  | .sl sz es _ => some (sz, es)
  | .str bs => some (1, bs.map fun b => .int .u8 (b : Nat))
  | .msl a off len _ sz =>
    match s.get a with
    | some (.cells cs) => let es := chunk sz len (cs.drop off); if AV.reflessL es && Nat.ble (off + len * sz) cs.length && !Nat.beq sz 0 then some (sz, es) else none
    | _ => none
  | _ => none

def eqPlain : List AV → List AV → Option Bool
  | [], [] => some true
  | .int k a :: xs, .int k' b :: ys => if k = k' then (eqPlain xs ys).map ((a == b) && ·) else none
  | .bool a :: xs, .bool b :: ys => (eqPlain xs ys).map ((a == b) && ·)
  | .str a :: xs, .str b :: ys => (eqPlain xs ys).map ((a == b) && ·)
  | _, _ => none

def strLess : List Nat → List Nat → Bool
  | _, [] => false
  | [], _ :: _ => true
  | a :: x, b :: y => Nat.blt a b || (Nat.beq a b && strLess x y)

def intBin (op : BinOp) (k : IntKind) (a b : Int) : Option AV :=
  match op with
  | .add => some (.int k (k.wrap (a + b)))
  | .sub => some (.int k (k.wrap (a - b)))
  | .mul => some (.int k (k.wrap (a * b)))
  | .quo => if b = 0 then none else some (.int k (k.wrap (a.tdiv b)))
  | .rem => if b = 0 then none else some (.int k (a.tmod b))
  | .and => some (.int k (k.wrap (BitVec.ofInt k.bits a &&& BitVec.ofInt k.bits b).toNat))
  | .or => some (.int k (k.wrap (BitVec.ofInt k.bits a ||| BitVec.ofInt k.bits b).toNat))
  | .xor => some (.int k (k.wrap (BitVec.ofInt k.bits a ^^^ BitVec.ofInt k.bits b).toNat))
  | .andNot => some (.int k (k.wrap (BitVec.ofInt k.bits a &&& ~~~BitVec.ofInt k.bits b).toNat))
  | .eql => some (.bool (a == b))
  | .neq => some (.bool (a != b))
  | .lss => some (.bool (a < b))
  | .leq => some (.bool (a ≤ b))
  | .gtr => some (.bool (a > b))
  | .geq => some (.bool (a ≥ b))
  | _ => none

def shiftV (op : BinOp) (k : IntKind) (a b : Int) : Option AV :=
  if b < 0 then none else
  match op with
  | .shl => some (.int k (k.wrap (a * 2 ^ (min b.toNat k.bits))))
  | .shr => some (.int k (a.fdiv (2 ^ (min b.toNat k.bits))))
  | _ => none

def strBin (op : BinOp) (x y : List Nat) : Option AV :=
  match op with
  | .add => if Nat.ble (x.length + y.length) 1099511627776 then some (.str (x ++ y)) else none
  | .eql => some (.bool (x == y))
  | .neq => some (.bool (!(x == y)))
  | .lss => some (.bool (strLess x y))
  | .leq => some (.bool (strLess x y || x == y))
  | .gtr => some (.bool (!(strLess x y || x == y)))
  | .geq => some (.bool (!strLess x y))
  | _ => none

/-- Is it nil? (where that can be told) -/
def isNil : AV → Option Bool
  | .nilp | .nilf | .nilmap | .nili => some true
  | .sl _ _ .nil => some true
  | .sl _ _ .exact | .sl _ _ .any | .sl _ _ (.buf _) | .msl .. | .ref .. | .vptr _ | .fn .. | .map _ | .iface .. => some false
  | _ => none

/-- Is it a value of a kind that may be nil? -/
def kindOK : EK → AV → Bool
  | .slice, .sl .. | .slice, .msl .. => true
  | .ptr, .nilp | .ptr, .ref .. | .ptr, .vptr _ => true
  | .func, .nilf | .func, .fn .. => true
  | .map, .nilmap | .map, .map _ => true
  | .iface, .nili | .iface, .iface .. => true
  | _, _ => false

def eqV (e : EK) (x y : AV) : Option Bool :=
  match e with
  | .bool =>
    match x, y with
    | .bool a, .bool b => some (a == b)
    | _, _ => none
  | .agg =>
    match x, y with
    | .agg xs, .agg ys => eqPlain xs ys
    | _, _ => none
  | e =>
    bif kindOK e x && kindOK e y then
      match isNil x, isNil y with
      | some true, some b => bif b && decide (e = .iface) then none else some b
      | some false, some true => some false
      | _, _ => none
    else none

/-- Is it the nil of an interface type? -/
def nilIV (neg : Bool) : AV → Option AV
  | .nili => some (.bool (!neg))
  | .iface .. => some (.bool neg)
  | _ => none
def binV (op : BinOp) (x y : AV) : Option AV :=
  match op, x, y with
  | .shl, .int k a, .int _ b => shiftV .shl k a b
  | .shr, .int k a, .int _ b => shiftV .shr k a b
  | op, .int k a, .int k' b => if k = k' then intBin op k a b else none
  | op, .str a, .str b => strBin op a b
  | _, _, _ => none

def unV (op : UnOp) (x : AV) : Option AV :=
  match op, x with
  | .neg, .int k n => some (.int k (k.wrap (0 - n)))
  | .xor, .int k n => some (.int k (k.wrap (BitVec.ofInt k.bits (if k.signed then -1 else k.max) ^^^ BitVec.ofInt k.bits n).toNat))
  | .not, .bool b => some (.bool (!b))
  | _, _ => none

def min2 (x y : AV) : Option AV :=
  match x, y with
  | .int k a, .int _ b => some (.int k (if b < a then b else a))
  | _, _ => none
def max2 (x y : AV) : Option AV :=
  match x, y with
  | .int k a, .int _ b => some (.int k (if b > a then b else a))
  | _, _ => none
def foldV (f : AV → AV → Option AV) : AV → List AV → Option AV
  | x, [] => some x
  | x, y :: ys => (f x y).bind fun z => foldV f z ys

def bound (G : Nat → AV) (fr : Nat → AV) (o : Option AOpd) (dflt : Nat) : Option Nat :=
  match o with
  | none => some dflt
  | some x => asNat (opnd G fr x)

def natBytes (es : List AV) : Option (List Nat) :=
  match es with
  | [] => some []
  | .int .u8 n :: es => if n.toNat < 256 then (natBytes es).map (n.toNat :: ·) else none
  | _ => none

/-- Cells written over others from a place on. -/
def splice {α : Type} (cs : List α) (off : Nat) (vs : List α) : List α :=
  match vs with
  | [] => cs
  | v :: vs => splice (cs.set off v) (off + 1) vs

/-- Is it the value of a variable? -/
def AV.isVal : AV → Bool
  | .dead | .tup _ => false
  | _ => true
/-- Is it the value of one cell? -/
def AV.isCell : AV → Bool
  | .dead | .tup _ | .agg _ => false
  | _ => true

def fillParts (G : Nat → AV) (d : Nat) (fr : Nat → AV) : List AV → List (Nat × Nat × AOpd) → Option (List AV)
  | cs, [] => some cs
  | cs, (off, sz, x) :: ps =>
    let v := (opnd G fr x).pub d
    bif v.isVal && Nat.beq v.cells.length sz && Nat.ble (off + sz) cs.length then fillParts G d fr (splice cs off v.cells) ps else none

/-- Do two variables lie apart? -/
def apartB (G : Nat → AV) (fr : Nat → AV) : AOpd × Nat × AOpd × Nat → Bool
  | (x, n, y, m) =>
    match opnd G fr x, opnd G fr y with
    | .ref (.l i) o, .ref (.l j) q => !Nat.beq i j || Nat.ble (o + n) q || Nat.ble (q + m) o
    | .vptr _, .ref .. => true
    | _, _ => false

inductive AX where
  | norm | exit (id : Nat) | ret | panic (v : AV)
  deriving Inhabited

/-- What follows, and a piece of code. -/
abbrev KK := AX → Tr → St → Res
abbrev SS := Tr → St → KK → Res
def seqK (g : SS) (k : KK) : KK := fun x fr s =>
  match x with
  | .norm => g fr s k
  | x => k x fr s
def joinK (m : Mk) (g : SS) (k : KK) : KK := fun x fr s =>
  match x with
  | .norm => Tr.maskK m (fun fr => g fr s k) fr
  | x => k x fr s
def blockK (id : Nat) (k : KK) : KK := fun x fr s =>
  match x with
  | .exit j => bif Nat.beq j id then k .norm fr s else k (.exit j) fr s
  | x => k x fr s
def loopIter (step : SS) (keep : Mk) : Nat → SS
  | 0, _, _, _ => .fail
  | n + 1, fr, s, k => step fr s (joinK keep (loopIter step keep n) k)

/-- What a function's code runs in: its calls, and how its loops go round. -/
structure Env where
  F : Force
  glob : Nat → AV
  call : Nat → List AV → St → Res
  loop : SS → Mk → SS

def Loc.same : Loc → Loc → Bool
  | .l i, .l j => Nat.beq i j
  | .g d i, .g e j => Nat.beq d e && Nat.beq i j
  | _, _ => false
def Gr.same : Gr → Gr → Bool
  | .nil, .nil | .exact, .exact | .any, .any => true
  | .buf a, .buf b => a.same b
  | _, _ => false
mutual
def AV.same : AV → AV → Bool
  | .dead, .dead | .nilp, .nilp | .nilf, .nilf | .nilmap, .nilmap | .nili, .nili => true
  | .bool a, .bool b => a == b
  | .int k a, .int k' b => decide (k = k') && a == b
  | .str a, .str b => a == b
  | .sl z a g, .sl z' b g' => Nat.beq z z' && g.same g' && AV.sameL a b
  | .msl a x y z q, .msl a' x' y' z' q' => a.same a' && Nat.beq x x' && Nat.beq y y' && Nat.beq z z' && Nat.beq q q'
  | .ref a x, .ref a' x' => a.same a' && Nat.beq x x'
  | .vptr a, .vptr b => AV.sameL a b
  | .fn f a, .fn f' b => Nat.beq f f' && AV.sameL a b
  | .map a, .map b => a.same b
  | .iface t v, .iface t' v' => Nat.beq t t' && v.same v'
  | .agg a, .agg b => AV.sameL a b
  | .tup a, .tup b => AV.sameL a b
  | _, _ => false
def AV.sameL : List AV → List AV → Bool
  | [], [] => true
  | a :: as, b :: bs => a.same b && AV.sameL as bs
  | _, _ => false
end

/-- A frame of reference for a new object. -/
def atLoc (G : Nat → AV) (fr : Nat → AV) : Option AOpd → Option Loc
  | none => some (.l 0)
  | some x =>
    match opnd G fr x with
    | .ref a _ => some a
    | .map a => some a
    | _ => none

/-- Are two keys of a map the same? -/
def keyEq : AV → AV → Option Bool
  | .int k a, .int k' b => if k = k' then some (a == b) else none
  | .str a, .str b => some (a == b)
  | .bool a, .bool b => some (a == b)
  | _, _ => none
def isKey : KD → AV → Bool
  | .int k, .int k' _ => decide (k' = k)
  | .str, .str _ => true
  | .bool, .bool _ => true
  | _, _ => false
def findKey (k : AV) : List (AV × AV) → Option (Option AV)
  | [] => some none
  | (x, v) :: es =>
    match keyEq k x with
    | some true => some (some v)
    | some false => findKey k es
    | none => none
def putKey (k v : AV) : List (AV × AV) → Option (List (AV × AV))
  | [] => some [(k, v)]
  | (x, u) :: es =>
    match keyEq k x with
    | some true => some ((x, v) :: es)
    | some false => (putKey k v es).map ((x, u) :: ·)
    | none => none

section
variable (E : Env) (fr : Nat → AV) (s : St) (k kp : AV → St → Res)

def oV (v : Option AV) : Res :=
  match v with
  | some v => E.F.v1 v fun v => k v s
  | none => .fail

def loadV (m : Option Nat) (cs : List AV) : Res :=
  match m with
  | none => match cs with
    | c :: _ => E.F.v0 c fun v => k v s
    | [] => .fail
  | some n => bif Nat.ble n cs.length then E.F.v1 (.agg (cs.take n)) fun v => k v s else .fail

def storeV (a : Loc) (off : Nat) (vs : List AV) : Res :=
  match s.get a with
  | some (.cells cs) =>
    bif Nat.ble (off + vs.length) cs.length && s.takes a vs && vs.all AV.isCell then
      E.F.l (splice cs off vs) fun cs =>
      match s.set a (.cells cs) with
      | some s => E.F.s s fun s => k .dead s
      | none => .fail
    else .fail
  | _ => .fail

def subStrV (x : AV) (lo hi : Option AOpd) : Res :=
  match x with
  | .str bs =>
    match bound E.glob fr lo 0, bound E.glob fr hi bs.length with
    | some l, some h => bif Nat.ble l h && Nat.ble h bs.length then E.F.v1 (.str ((bs.drop l).take (h - l))) fun v => k v s else .fail
    | _, _ => .fail
  | _ => .fail

def sliceV (z : Nat) (x : AV) (lo hi mx : Option AOpd) : Res :=
  match x with
  | .sl sz es g =>
    match bound E.glob fr lo 0, bound E.glob fr hi es.length with
    | some l, some h =>
      match mx with
      | none =>
        bif Nat.beq z sz && Nat.ble l h && Nat.ble h es.length then
          E.F.v1 (.sl sz ((es.drop l).take (h - l)) (match g with
            | .nil => .nil
            | .exact => if h = es.length then .exact else .any
            | .buf a => if l = 0 ∧ h = es.length then .buf a else .any
            | .any => .any)) fun v => k v s
        else .fail
      | some x =>
        match asNat (opnd E.glob fr x), g with
        | _, .nil => .fail
        | some m, _ => bif Nat.beq z sz && Nat.ble l h && Nat.ble h m && Nat.ble m es.length then E.F.v1 (.sl sz ((es.drop l).take (h - l)) (if h = m then .exact else .any)) fun v => k v s else .fail
        | _, _ => .fail
    | _, _ => .fail
  | .msl a off len cap sz =>
    match bound E.glob fr lo 0, bound E.glob fr hi len, bound E.glob fr mx cap with
    | some l, some h, some m =>
      bif Nat.beq z sz && Nat.ble l h && Nat.ble h m && Nat.ble m cap then E.F.v1 (.msl a (if m = l then off else off + l * sz) (h - l) (m - l) sz) fun v => k v s else .fail
    | _, _, _ => .fail
  | _ => .fail

def appendV (q bytes : Nat) (b : Loc) (x y : AV) : Res :=
  match elemsOf s y with
  | none => .fail
  | some (z, new) =>
    match x with
    | .sl sz es g =>
      bif Nat.beq z q && Nat.beq sz q && Nat.ble ((es.length + new.length) * bytes) 1099511627776 then
        match new with
        | [] => k (.sl sz es g) s
        | _ :: _ =>
          match g with
          | .nil | .exact =>
            match s.newBy b (.tok (es.length + new.length)) with
            | some (l, s) => E.F.v1 (.sl sz (es ++ new) (.buf l)) fun v => E.F.s s fun s => k v s
            | none => .fail
          | .buf a =>
            match s.get a with
            | some (.tok n) =>
              bif Nat.beq n es.length && (new.flatMap AV.cells).all AV.isCell then
                match s.set a (.tok (es.length + new.length)) with
                | some s => E.F.v1 (.sl sz (es ++ new) (.buf a)) fun v => E.F.s s fun s => k v s
                | none => .fail
              else .fail
            | _ => .fail
          | .any => .fail
      else .fail
    | .msl a off len cap sz =>
      match s.get a with
      | some (.cells cs) =>
        bif Nat.beq z q && Nat.beq sz q && Nat.ble (len + new.length) cap && Nat.ble (off + (len + new.length) * sz) cs.length && s.takes a new && (new.flatMap AV.cells).all AV.isCell then
          E.F.l (splice cs (off + len * sz) (new.flatMap AV.cells)) fun cs =>
          match s.set a (.cells cs) with
          | some s => E.F.v1 (.msl a off (len + new.length) cap sz) fun v => E.F.s s fun s => k v s
          | none => .fail
        else .fail
      | _ => .fail
    | _ => .fail

def idxV (sz : Nat) (x : AV) (i : AV) : Res :=
  match asNat i with
  | none => .fail
  | some i =>
    match x with
    | .sl z es _ =>
      bif Nat.beq z sz then
        match es[i]? with
        | some e => E.F.v1 (.vptr e.cells) fun v => k v s
        | none => .fail
      else .fail
    | .msl a off len _ z => bif Nat.beq z sz && Nat.blt i len then E.F.v1 (.ref a (off + i * sz)) fun v => k v s else .fail
    | _ => .fail

def idxArrV (sz len : Nat) (x : AV) (i : AV) : Res :=
  match asNat i with
  | none => .fail
  | some i =>
    bif Nat.blt i len then
      match x with
      | .vptr cs => E.F.v1 (.vptr (cs.drop (i * sz))) fun v => k v s
      | .ref a off => E.F.v1 (.ref a (off + i * sz)) fun v => k v s
      | _ => .fail
    else .fail

def callV (f : Nat) (args : List AV) : Res :=
  match E.call f args s with
  | .ok v s' => bif Nat.beq s'.depth s.depth then k v s' else .fail
  | .panic v s' => kp v s'
  | .fail => .fail

/-- The cells at an address. -/
def cellsOf (v : AV) : Option (List AV) :=
  match v with
  | .vptr cs => some cs
  | .ref a off =>
    match s.get a with
    | some (.cells cs) => some (cs.drop off)
    | _ => none
  | _ => none
def cellsAt (s : St) (n : Option Nat) (v : AV) : Option (List AV) := (cellsOf s v).map fun cs => cs.take (n.getD 1)
def sameO : Option (List AV) → Option (List AV) → Bool
  | some a, some b => AV.sameL a b
  | _, _ => false
/-- A call that leaves the cells at some addresses as they are. -/
def callCV (xs : List (Option Nat × AV)) (f : Nat) (args : List AV) : Res :=
  callV E s (fun v s' => bif xs.all fun x => sameO (cellsAt s x.1 x.2) (cellsAt s' x.1 x.2) then k v s' else .fail) kp f args
/-- A call that sees no mutable object. -/
def callPV (f : Nat) (args : List AV) : Res :=
  bif AV.reflessL args then
    match E.call f args { own := [], up := [], ro := [] } with
    | .ok v _ => bif v.refless then k v s else .fail
    | _ => .fail
  else .fail

def loadOp (n : Option Nat) (v : AV) : Res :=
  match v with
  | .vptr cs => loadV E s k n cs
  | .ref a off =>
    match s.get a with
    | some (.cells cs) => loadV E s k n (cs.drop off)
    | _ => .fail
  | _ => .fail

def fieldAddrV (off : Nat) (v : AV) : Res :=
  match v with
  | .vptr cs => E.F.v1 (.vptr (cs.drop off)) fun v => k v s
  | .ref a o => E.F.v1 (.ref a (o + off)) fun v => k v s
  | _ => .fail

def fieldV (off : Nat) (n : Option Nat) (v : AV) : Res :=
  match v with
  | .agg cs => loadV E s k n (cs.drop off)
  | _ => .fail

def idxStrV (v i : AV) : Res :=
  match v with
  | .str bs =>
    match asNat i with
    | some i =>
      match bs[i]? with
      | some b => E.F.v1 (.int .u8 b) fun v => k v s
      | none => .fail
    | none => .fail
  | _ => .fail

def idxAggV (sz len : Nat) (n : Option Nat) (v i : AV) : Res :=
  match v with
  | .agg cs =>
    match asNat i with
    | some i => bif Nat.blt i len then loadV E s k n (cs.drop (i * sz)) else .fail
    | none => .fail
  | _ => .fail

def extractV (i : Nat) (v : AV) : Res :=
  match v with
  | .tup vs => oV E s k vs[i]?
  | _ => .fail

def lenV (str : Bool) (v : AV) : Res :=
  match str, v with
  | true, .str bs => E.F.v1 (.int .i64 bs.length) fun v => k v s
  | false, .sl _ es _ => E.F.v1 (.int .i64 es.length) fun v => k v s
  | false, .msl _ _ n _ _ => E.F.v1 (.int .i64 n) fun v => k v s
  | _, _ => .fail

def copyV (d x : AV) : Res :=
  match d with
  | .msl a off len _ sz =>
    match elemsOf s x with
    | some (z, es) =>
      match s.get a with
      | some (.cells cs) =>
        bif Nat.beq z sz && Nat.ble (off + len * sz) cs.length && ((es.take (min es.length len)).flatMap AV.cells).all AV.isCell then
          E.F.l (splice cs off ((es.take (min es.length len)).flatMap AV.cells)) fun cs =>
          match s.set a (.cells cs) with
          | some s => E.F.v1 (.int .i64 (min es.length len : Nat)) fun v => E.F.s s fun s => k v s
          | none => .fail
        else .fail
      | _ => .fail
    | none => .fail
  | _ => .fail

def copyOp (q : Nat) (d x : AV) : Res :=
  match d with
  | .msl a off len cap sz => bif Nat.beq sz q then copyV E s k (.msl a off len cap sz) x else .fail
  | _ => .fail

def makeV (zero : List AV) (bytes : Nat) (l c : AV) : Res :=
  match asNat l with
  | some l =>
    match asNat c with
    | some c =>
      bif Nat.ble l c && Nat.ble (c * bytes) 1099511627776 then
        E.F.l (List.replicate c zero).flatten fun cs => E.F.v1 (.msl (.l s.own.length) 0 l c zero.length) fun v => E.F.s (s.new (.cells cs)) fun s => k v s
      else .fail
    | none => .fail
  | none => .fail

def storeOp (n : Nat) (a v : AV) : Res :=
  match a with
  | .ref a off => bif v.isVal && Nat.beq v.cells.length n then storeV E s k a off v.cells else .fail
  | _ => .fail

def convIntV (d : IntKind) (v : AV) : Res :=
  match v with
  | .int _ n => E.F.v1 (.int d (d.wrap n)) fun v => k v s
  | _ => .fail
def convIdV (v : AV) : Res :=
  match v with
  | .str bs => k (.str bs) s
  | _ => .fail
def strToBytesV (v : AV) : Res :=
  match v with
  | .str bs => E.F.v1 (.sl 1 (bs.map fun b => .int .u8 (b : Nat)) .any) fun v => k v s
  | _ => .fail
def bytesToStrV (v : AV) : Res :=
  match v with
  | .str _ => .fail
  | v =>
    match elemsOf s v with
    | some (_, es) => oV E s k ((natBytes es).map .str)
    | none => .fail
def pickV (c a b : AV) : Res :=
  match c with
  | .bool t => E.F.v0 (bif t then a else b) fun v => k v s
  | _ => .fail
def nilCheckV (v : AV) : Res :=
  match isNil v with
  | some false => E.F.v0 v fun v => k v s
  | _ => .fail
/-- A slice of the running frame's own is frozen. -/
def moveFV (v : AV) : Res :=
  match v with
  | .msl (.l i) off len cap sz =>
    match s.own[i]? with
    | some (.cells cs) =>
      let es := chunk sz len (cs.drop off)
      bif AV.reflessL es && Nat.ble (off + len * sz) cs.length && !Nat.beq sz 0 then
        E.F.v1 (.sl sz es (if len = cap then .exact else .any)) fun v => E.F.s { s with own := s.own.set i .gone } fun s => k v s
      else .fail
    | _ => .fail
  | _ => .fail
def buildSliceV (sz : Nat) (es : List AV) : Res :=
  bif AV.reflessL es && es.all (fun e => e.isVal && Nat.beq e.cells.length sz) then E.F.v1 (.sl sz es .exact) fun v => k v s else .fail
def callFV (f : AV) (args : List AV) : Res :=
  match f with
  | .fn f caps => E.F.l (args ++ caps) fun args => callV E s k kp f args
  | _ => .fail
def callFPV (f : AV) (args : List AV) : Res :=
  match f with
  | .fn f caps => E.F.l (args ++ caps) fun args => callPV E s k f args
  | _ => .fail
def callFCV (xs : List (Option Nat × AV)) (f : AV) (args : List AV) : Res :=
  match f with
  | .fn f caps => E.F.l (args ++ caps) fun args => callCV E s k kp xs f args
  | _ => .fail
def foldOp (f : AV → AV → Option AV) (xs : List AV) : Res :=
  match xs with
  | x :: xs => oV E s k (foldV f x xs)
  | [] => .fail

def appendOp (q bytes : Nat) (b : Option Loc) (x y : AV) : Res :=
  match b with
  | some b => appendV E s k q bytes b x y
  | none => .fail
def makeMapV (b : Option Loc) : Res :=
  match b with
  | some b =>
    match s.newBy b (.map []) with
    | some (l, s) => E.F.v1 (.map l) fun v => E.F.s s fun s => k v s
    | none => .fail
  | none => .fail
def mapPutV (kd : KD) (m x v : AV) : Res :=
  match m with
  | .map a =>
    match s.get a with
    | some (.map es) =>
      bif isKey kd x && v.isVal && s.takes a [x, v] then
        match putKey x v es with
        | some es =>
          match s.set a (.map es) with
          | some s => E.F.s s fun s => k .dead s
          | none => .fail
        | none => .fail
      else .fail
    | _ => .fail
  | _ => .fail
/-- The entries of a map that is read. -/
def entriesOf : AV → Option (List (AV × AV))
  | .nilmap => some []
  | .map a =>
    match s.get a with
    | some (.map es) => some es
    | _ => none
  | _ => none
def lookupV (kd : KD) (zero : AV) (ok : Bool) (m x : AV) : Res :=
  bif isKey kd x then
    match entriesOf s m with
    | some es =>
      match findKey x es with
      | some (some v) => E.F.v1 (bif ok then .tup [v, .bool true] else v) fun v => k v s
      | some none => E.F.v1 (bif ok then .tup [zero, .bool false] else zero) fun v => k v s
      | none => .fail
    | none => .fail
  else .fail

def stepOp (op : AOp) : Res :=
  match op with
  | .move x => E.F.v0 (opnd E.glob fr x) fun v => k v s
  | .pick c a b => pickV E s k (opnd E.glob fr c) (opnd E.glob fr a) (opnd E.glob fr b)
  | .alloc zero => E.F.v1 (.ref (.l s.own.length) 0) fun v => E.F.s (s.new (.cells zero)) fun s => k v s
  | .boxRo x => bif (opnd E.glob fr x).isVal then E.F.v1 (.vptr ((opnd E.glob fr x).pub s.depth).cells) fun v => k v s else .fail
  | .boxMut x => bif (opnd E.glob fr x).isVal then E.F.l ((opnd E.glob fr x).pub s.depth).cells fun cs => E.F.v1 (.ref (.l s.own.length) 0) fun v => E.F.s (s.new (.cells cs)) fun s => k v s else .fail
  | .build zero parts => oV E s k ((fillParts E.glob s.depth fr zero parts).map .agg)
  | .buildSlice sz parts => buildSliceV E s k sz (parts.map (opnd E.glob fr))
  | .moveF x => moveFV E s k (opnd E.glob fr x)
  | .load n a => loadOp E s k n (opnd E.glob fr a)
  | .store n a v => storeOp E s k n (opnd E.glob fr a) ((opnd E.glob fr v).pub s.depth)
  | .nilCheck x => nilCheckV E s k (opnd E.glob fr x)
  | .bin op x y => oV E s k (binV op (opnd E.glob fr x) (opnd E.glob fr y))
  | .eq neg e x y => oV E s k ((eqV e (opnd E.glob fr x) (opnd E.glob fr y)).map fun b => .bool (bif neg then !b else b))
  | .un op x => oV E s k (unV op (opnd E.glob fr x))
  | .convInt d x => convIntV E s k d (opnd E.glob fr x)
  | .convId x => convIdV s k (opnd E.glob fr x)
  | .bytesToStr x => bytesToStrV E s k (opnd E.glob fr x)
  | .strToBytes x => strToBytesV E s k (opnd E.glob fr x)
  | .mkIface t x => E.F.v1 (.iface t ((opnd E.glob fr x).pub s.depth)) fun v => k v s
  | .mkFunc f caps => E.F.v1 (.fn f (caps.map fun x => (opnd E.glob fr x).pub s.depth)) fun v => k v s
  | .makeSlice zero bytes l c => makeV E s k zero bytes (opnd E.glob fr l) (opnd E.glob fr c)
  | .subStr x lo hi => subStrV E fr s k (opnd E.glob fr x) lo hi
  | .slice z x lo hi mx => sliceV E fr s k z (opnd E.glob fr x) lo hi mx
  | .fieldAddr off a => fieldAddrV E s k off (opnd E.glob fr a)
  | .field off n x => fieldV E s k off n (opnd E.glob fr x)
  | .idxSl sz x i => idxV E s k sz (opnd E.glob fr x) (opnd E.glob fr i)
  | .idxArr sz len x i => idxArrV E s k sz len (opnd E.glob fr x) (opnd E.glob fr i)
  | .idxStr x i => idxStrV E s k (opnd E.glob fr x) (opnd E.glob fr i)
  | .idxAgg sz len n x i => idxAggV E s k sz len n (opnd E.glob fr x) (opnd E.glob fr i)
  | .extract x i => extractV E s k i (opnd E.glob fr x)
  | .call f args => E.F.l (args.map fun x => (opnd E.glob fr x).pub s.depth) fun args => callV E s k kp f args
  | .callV f args => callFV E s k kp (opnd E.glob fr f) (args.map fun x => (opnd E.glob fr x).pub s.depth)
  | .callP f args => E.F.l (args.map fun x => (opnd E.glob fr x).pub s.depth) fun args => callPV E s k f args
  | .callVP f args => callFPV E s k (opnd E.glob fr f) (args.map fun x => (opnd E.glob fr x).pub s.depth)
  | .len b x => lenV E s k b (opnd E.glob fr x)
  | .append q bytes b x y => appendOp E s k q bytes (atLoc E.glob fr b) (opnd E.glob fr x) (opnd E.glob fr y)
  | .copy q d x => copyOp E s k q (opnd E.glob fr d) (opnd E.glob fr x)
  | .min xs => foldOp E s k min2 (xs.map fun x => (opnd E.glob fr x).pub s.depth)
  | .max xs => foldOp E s k max2 (xs.map fun x => (opnd E.glob fr x).pub s.depth)
  | .makeMap b => makeMapV E s k (atLoc E.glob fr b)
  | .mapPut kd m x v => mapPutV E s k kd (opnd E.glob fr m) ((opnd E.glob fr x).pub s.depth) ((opnd E.glob fr v).pub s.depth)
  | .lookup kd zero ok m x => lookupV E s k kd zero ok (opnd E.glob fr m) ((opnd E.glob fr x).pub s.depth)
  | .callC ks f args => E.F.l (args.map fun x => (opnd E.glob fr x).pub s.depth) fun args => callCV E s k kp (ks.map fun x => (x.1, opnd E.glob fr x.2)) f args
  | .callVC ks f args => callFCV E s k kp (ks.map fun x => (x.1, opnd E.glob fr x.2)) (opnd E.glob fr f) (args.map fun x => (opnd E.glob fr x).pub s.depth)
  | .nilI neg x => oV E s k (nilIV neg (opnd E.glob fr x))
  | .no => .fail
end

def wantedK (g : Option (Nat × Bool)) (fr : Tr) (k : Bool → Res) : Res :=
  match g with
  | none => k true
  | some (t, want) =>
    match fr.get t with
    | .bool b => k (b == want)
    | .tup _ => k false
    | _ => .fail

def runOps (E : Env) : List AOper → Tr → St → (Tr → St → Res) → (AV → Tr → St → Res) → Res
  | [], fr, s, fin, _ => fin fr s
  | o :: os, fr, s, fin, pan =>
    wantedK o.guard fr fun w =>
      bif w then stepOp E fr.get s (fun v s => putK fr o.dst v fun fr => runOps E os fr s fin pan) (fun v s => pan v fr s) o.op
      else putK fr o.dst (.tup []) fun fr => runOps E os fr s fin pan

def exec (E : Env) : ACode → SS
  | .skip, fr, s, k => k .norm fr s
  | .region none ops, fr, s, k => runOps E ops fr s (fun fr s => k .norm fr s) (fun _ _ _ => .fail)
  | .region (some chk) ops, fr, s, k =>
    bif chk.all (apartB E.glob fr.get) then runOps E ops fr s (fun fr s => k .norm fr s) (fun _ _ _ => .fail) else .fail
  | .seq a b, fr, s, k => exec E a fr s (seqK (exec E b) k)
  | .mask m a, fr, s, k => Tr.maskK m (fun fr => exec E a fr s k) fr
  | .cond c a b, fr, s, k =>
    match opnd E.glob fr.get c with
    | .bool t => bif t then exec E a fr s k else exec E b fr s k
    | _ => .fail
  | .block id c, fr, s, k => exec E c fr s (blockK id k)
  | .loop keep c, fr, s, k => Tr.maskK keep (fun fr => E.loop (exec E c) keep fr s k) fr
  | .exit id, fr, s, k => k (.exit id) fr s
  | .scope c, fr, s, k => exec E c fr s k
  | .ret, fr, s, k => k .ret fr s

def freezeOwn (s : St) (i off len cap sz : Nat) : Option AV :=
  match s.own[i]? with
  | some (.cells cs) => let es := chunk sz len (cs.drop off); if AV.reflessL es && Nat.ble (off + len * sz) cs.length && !Nat.beq sz 0 then some (.sl sz es (if len = cap then .exact else .any)) else none
  | _ => none

/-- A result as the caller may have it: slices that the frame has made are frozen. -/
def freeze1 (s : St) : AV → Option AV
  | .msl (.l i) off len cap sz => freezeOwn s i off len cap sz
  | .msl (.g d i) off len cap sz => if d = s.depth then freezeOwn s i off len cap sz else if d < s.depth then some (.msl (.g d i) off len cap sz) else none
  | .ref (.g d i) off => if d < s.depth then some (.ref (.g d i) off) else none
  | .sl sz es (.buf (.l _)) => some (.sl sz es .any)
  | .sl sz es (.buf (.g d i)) => if d < s.depth then some (.sl sz es (.buf (.g d i))) else some (.sl sz es .any)
  | .map (.g d i) => if d < s.depth then some (.map (.g d i)) else none
  | v => if v.refless then some v else none

def mapO {α β : Type} (f : α → Option β) : List α → Option (List β)
  | [] => some []
  | x :: xs => (f x).bind fun y => (mapO f xs).map fun ys => y :: ys

def freeze (s : St) : AV → Option AV
  | .agg cs => (mapO (freeze1 s) cs).map .agg
  | v => freeze1 s v

def resV (fr : Tr) (s : St) : ARes → Option AV
  | .t n => some (fr.get n)
  | .cell a n =>
    match fr.get a with
    | .ref a off =>
      match s.get a, n with
      | some (.cells cs), none => cs[off]?
      | some (.cells cs), some n => if Nat.ble (off + n) cs.length then some (.agg ((cs.drop off).take n)) else none
      | _, _ => none
    | _ => none

def tupV : List AV → AV
  | [v] => v
  | vs => .tup vs

def finish (F : Force) (fn : AFn) (fr : Tr) (s : St) : Res :=
  match mapO (resV fr s) fn.results with
  | some vs =>
    if fn.keep then F.l (vs.map (AV.pub s.depth)) fun vs => .ok (tupV vs) s
    else
      match mapO (freeze s) vs with
      | some vs =>
        match s.up with
        | own :: up => F.l vs fun vs => F.s { own, up, ro := s.ro } fun s => .ok (tupV vs) s
        | [] => .fail
      | none => .fail
  | none => .fail

/-- Behind a function's body. -/
def finK (F : Force) (fn : AFn) : KK := fun x fr s =>
  match x with
  | .norm => finish F fn fr s
  | .ret => finish F fn fr s
  | _ => .fail

def setArgs : List AV → Nat → Tr → (Tr → Res) → Res
  | [], _, fr, k => k fr
  | v :: vs, i, fr, k => fr.setK 12 i v fun fr => setArgs vs (i + 1) fr k

def call (F : Force) (T : Nat → Option AFn) (G : Nat → AV) (X : Nat → List AV → St → Res) : Nat → Nat → List AV → St → Res
  | 0, _, _, _ => .fail
  | n + 1, f, args, s =>
    match T f with
    | none => X f args s
    | some fn =>
      bif Nat.beq args.length fn.np then
        setArgs args 0 .e fun fr => exec { F, glob := G, call := call F T G X n, loop := fun step keep => loopIter step keep n } fn.body fr
          (if fn.keep then s else { own := [], up := s.own :: s.up, ro := s.ro })
          (finK F fn)
      else .fail

theorem Loc.same_eq {a b : Loc} : a.same b = true ↔ a = b := by
  cases a <;> cases b <;> simp [Loc.same]
theorem Gr.same_eq {a b : Gr} : a.same b = true ↔ a = b := by
  cases a <;> cases b <;> simp [Gr.same, Loc.same_eq]
mutual
theorem AV.same_eq : ∀ (a b : AV), a.same b = true ↔ a = b
  | .dead, b => by cases b <;> simp [AV.same]
  | .nilp, b => by cases b <;> simp [AV.same]
  | .nilf, b => by cases b <;> simp [AV.same]
  | .nilmap, b => by cases b <;> simp [AV.same]
  | .nili, b => by cases b <;> simp [AV.same]
  | .bool a, b => by cases b <;> simp [AV.same]
  | .int k a, b => by cases b <;> simp [AV.same]
  | .str a, b => by cases b <;> simp [AV.same]
  | .sl z a g, b => by cases b <;> simp [AV.same, Gr.same_eq, AV.sameL_eq a, and_assoc]; intro _; exact And.comm
  | .msl a x y z q, b => by cases b <;> simp [AV.same, Loc.same_eq, and_assoc]
  | .ref a x, b => by cases b <;> simp [AV.same, Loc.same_eq]
  | .vptr a, b => by cases b <;> simp [AV.same, AV.sameL_eq a]
  | .fn f a, b => by cases b <;> simp [AV.same, AV.sameL_eq a]
  | .map a, b => by cases b <;> simp [AV.same, Loc.same_eq]
  | .iface t v, b => by cases b <;> simp [AV.same, AV.same_eq v]
  | .agg a, b => by cases b <;> simp [AV.same, AV.sameL_eq a]
  | .tup a, b => by cases b <;> simp [AV.same, AV.sameL_eq a]
theorem AV.sameL_eq : ∀ (a b : List AV), AV.sameL a b = true ↔ a = b
  | [], b => by cases b <;> simp [AV.sameL]
  | x :: xs, b => by cases b <;> simp [AV.sameL, AV.same_eq x, AV.sameL_eq xs]
end
theorem sameO_eq {a b : Option (List AV)} : sameO a b = true ↔ ∃ l, a = some l ∧ b = some l := by
  cases a <;> cases b <;> simp only [sameO, AV.sameL_eq, Bool.false_eq_true, Option.some.injEq, reduceCtorEq, false_and, and_false, exists_false, exists_eq_left']
  exact eq_comm

/-! ### Reckoned out -/
def forceNat (n : Nat) (k : Nat → Res) : Res := Nat.casesOn n (k 0) (fun p => k (p + 1))
def forceInt (n : Int) (k : Int → Res) : Res :=
  match n with
  | .ofNat m => forceNat m fun m => k (.ofNat m)
  | .negSucc m => forceNat m fun m => k (.negSucc m)
def forceNats : List Nat → (List Nat → Res) → Res
  | [], k => k []
  | x :: xs, k => forceNat x fun x => forceNats xs fun xs => k (x :: xs)
def force0 (v : AV) (k : AV → Res) : Res :=
  match v with
  | .dead => k .dead
  | .bool b => match b with
    | true => k (.bool true)
    | false => k (.bool false)
  | .int i n => forceInt n fun n => k (.int i n)
  | .str s => k (.str s)
  | .sl sz es g => k (.sl sz es g)
  | .msl a off len cap sz => k (.msl a off len cap sz)
  | .ref a off => k (.ref a off)
  | .vptr cs => k (.vptr cs)
  | .nilp => k .nilp
  | .fn f caps => k (.fn f caps)
  | .nilf => k .nilf
  | .map a => k (.map a)
  | .nilmap => k .nilmap
  | .iface t v => k (.iface t v)
  | .nili => k .nili
  | .agg cs => k (.agg cs)
  | .tup vs => k (.tup vs)
def forceL : List AV → (List AV → Res) → Res
  | [], k => k []
  | x :: xs, k => force0 x fun x => forceL xs fun xs => k (x :: xs)
def forceLoc (a : Loc) (k : Loc → Res) : Res :=
  match a with
  | .l i => forceNat i fun i => k (.l i)
  | .g d i => forceNat d fun d => forceNat i fun i => k (.g d i)
def forceGr (g : Gr) (k : Gr → Res) : Res :=
  match g with
  | .nil => k .nil
  | .exact => k .exact
  | .any => k .any
  | .buf a => forceLoc a fun a => k (.buf a)
def force1 (v : AV) (k : AV → Res) : Res :=
  match v with
  | .dead => k .dead
  | .bool b => match b with
    | true => k (.bool true)
    | false => k (.bool false)
  | .int i n => forceInt n fun n => k (.int i n)
  | .str s => forceNats s fun s => k (.str s)
  | .sl sz es g => forceL es fun es => forceGr g fun g => k (.sl sz es g)
  | .msl a off len cap sz => forceLoc a fun a => forceNat off fun off => forceNat len fun len => forceNat cap fun cap => k (.msl a off len cap sz)
  | .ref a off => forceLoc a fun a => forceNat off fun off => k (.ref a off)
  | .vptr cs => forceL cs fun cs => k (.vptr cs)
  | .nilp => k .nilp
  | .fn f caps => forceL caps fun caps => k (.fn f caps)
  | .nilf => k .nilf
  | .map a => forceLoc a fun a => k (.map a)
  | .nilmap => k .nilmap
  | .iface t v => force0 v fun v => k (.iface t v)
  | .nili => k .nili
  | .agg cs => forceL cs fun cs => k (.agg cs)
  | .tup vs => forceL vs fun vs => k (.tup vs)
def forceObj (o : AObj) (k : AObj → Res) : Res :=
  match o with
  | .cells cs => k (.cells cs)
  | .tok n => forceNat n fun n => k (.tok n)
  | .map es => k (.map es)
  | .gone => k .gone
def forceObjs : List AObj → (List AObj → Res) → Res
  | [], k => k []
  | x :: xs, k => forceObj x fun x => forceObjs xs fun xs => k (x :: xs)
def forceFrs : List (List AObj) → (List (List AObj) → Res) → Res
  | [], k => k []
  | x :: xs, k => forceObjs x fun x => forceFrs xs fun xs => k (x :: xs)
def forceSt (s : St) (k : St → Res) : Res := forceObjs s.own fun own => forceFrs s.up fun up => forceFrs s.ro fun ro => k { own, up, ro }
def Force.full : Force := { v0 := force0, v1 := force1, l := forceL, s := forceSt }
theorem forceNat_eq (n : Nat) (k : Nat → Res) : forceNat n k = k n := by cases n <;> rfl
theorem forceInt_eq (n : Int) (k : Int → Res) : forceInt n k = k n := by cases n <;> simp [forceInt, forceNat_eq]
theorem forceNats_eq : ∀ (l : List Nat) (k : List Nat → Res), forceNats l k = k l
  | [], _ => rfl
  | x :: xs, k => by simp [forceNats, forceNat_eq, forceNats_eq xs]
theorem force0_eq (v : AV) (k : AV → Res) : force0 v k = k v := by
  cases v <;> simp only [force0, forceInt_eq]
  split <;> rfl
theorem forceL_eq : ∀ (l : List AV) (k : List AV → Res), forceL l k = k l
  | [], _ => rfl
  | x :: xs, k => by simp [forceL, force0_eq, forceL_eq xs]
theorem forceLoc_eq (a : Loc) (k : Loc → Res) : forceLoc a k = k a := by cases a <;> simp [forceLoc, forceNat_eq]
theorem forceGr_eq (a : Gr) (k : Gr → Res) : forceGr a k = k a := by cases a <;> simp [forceGr, forceLoc_eq]
theorem force1_eq (v : AV) (k : AV → Res) : force1 v k = k v := by
  cases v <;> simp only [force1, forceInt_eq, forceNats_eq, forceL_eq, forceLoc_eq, forceGr_eq, forceNat_eq, force0_eq]
  split <;> rfl
theorem forceObj_eq (o : AObj) (k : AObj → Res) : forceObj o k = k o := by cases o <;> simp [forceObj, forceNat_eq]
theorem forceObjs_eq : ∀ (l : List AObj) (k : List AObj → Res), forceObjs l k = k l
  | [], _ => rfl
  | x :: xs, k => by simp [forceObjs, forceObj_eq, forceObjs_eq xs]
theorem forceFrs_eq : ∀ (l : List (List AObj)) (k : List (List AObj) → Res), forceFrs l k = k l
  | [], _ => rfl
  | x :: xs, k => by simp [forceFrs, forceObjs_eq, forceFrs_eq xs]
theorem forceSt_eq (s : St) (k : St → Res) : forceSt s k = k s := by simp [forceSt, forceObjs_eq, forceFrs_eq]
theorem Force.full_eq : Force.full = Force.not := by
  unfold Force.full Force.not
  congr <;> funext v k
  · exact force0_eq v k
  · exact force1_eq v k
  · exact forceL_eq v k
  · exact forceSt_eq v k
/-- A table of functions. -/
def lookFn (f : Nat) : List (Nat × AFn) → Option AFn
  | [] => none
  | (g, c) :: l => bif Nat.beq f g then some c else lookFn f l
theorem lookFn_mem {f : Nat} {c : AFn} : ∀ {l : List (Nat × AFn)}, lookFn f l = some c → (f, c) ∈ l
  | [], h => by cases h
  | (g, d) :: l, h => by
    simp only [lookFn] at h
    cases hb : Nat.beq f g with
    | true =>
      rw [hb] at h
      have := Nat.eq_of_beq_eq_true hb
      subst this
      obtain rfl := Option.some.inj h
      exact List.mem_cons_self ..
    | false =>
      rw [hb] at h
      exact List.mem_cons_of_mem _ (lookFn_mem h)
end Go.Ab
