/- Words in which a function's code is printed without its frame. -/
import Derived.Test.YtnafklimohmfkaaDoorOm
namespace Go.Ab

def hLet (v : AV) (s : St) (k : AV → St → Res) : Res := k v s
def hBoxRo (x : AV) (s : St) (k : AV → St → Res) : Res := bif x.isVal then k (.vptr (x.pub s.depth).cells) s else .fail
def hBoxMut (x : AV) (s : St) (k : AV → St → Res) : Res := bif x.isVal then k (.ref (.l s.own.length) 0) (s.new (.cells (x.pub s.depth).cells)) else .fail
def hFill (d : Nat) : List AV → List (Nat × Nat × AV) → Option (List AV)
  | cs, [] => some cs
  | cs, (off, sz, x) :: ps =>
    let v := x.pub d
    bif v.isVal && Nat.beq v.cells.length sz && Nat.ble (off + sz) cs.length then hFill d (splice cs off v.cells) ps else none
def hBuild (zero : List AV) (ps : List (Nat × Nat × AV)) (s : St) (k : AV → St → Res) : Res :=
  match (hFill s.depth zero ps).map .agg with
  | some v => k v s
  | none => .fail
def hBd (o : Option AV) (d : Nat) : Option Nat :=
  match o with
  | none => some d
  | some x => asNat x
def hSub (x : AV) (lo hi : Option AV) (s : St) (k : AV → St → Res) : Res :=
  match x with
  | .str bs =>
    match hBd lo 0, hBd hi bs.length with
    | some l, some h => bif Nat.ble l h && Nat.ble h bs.length then k (.str ((bs.drop l).take (h - l))) s else .fail
    | _, _ => .fail
  | _ => .fail
def hSlice (z : Nat) (x : AV) (lo hi mx : Option AV) (s : St) (k : AV → St → Res) : Res :=
  match x with
  | .sl sz es g =>
    match hBd lo 0, hBd hi es.length with
    | some l, some h =>
      match mx with
      | none =>
        bif Nat.beq z sz && Nat.ble l h && Nat.ble h es.length then
          k (.sl sz ((es.drop l).take (h - l)) (match g with
            | .nil => .nil
            | .exact => if h = es.length then .exact else .any
            | .buf a => if l = 0 ∧ h = es.length then .buf a else .any
            | .any => .any)) s
        else .fail
      | some x =>
        match asNat x, g with
        | _, .nil => .fail
        | some m, _ => bif Nat.beq z sz && Nat.ble l h && Nat.ble h m && Nat.ble m es.length then k (.sl sz ((es.drop l).take (h - l)) (if h = m then .exact else .any)) s else .fail
        | _, _ => .fail
    | _, _ => .fail
  | .msl a off len cap sz =>
    match hBd lo 0, hBd hi len, hBd mx cap with
    | some l, some h, some m =>
      bif Nat.beq z sz && Nat.ble l h && Nat.ble h m && Nat.ble m cap then k (.msl a (if m = l then off else off + l * sz) (h - l) (m - l) sz) s else .fail
    | _, _, _ => .fail
  | _ => .fail
def hAt (v : AV) : Option Loc :=
  match v with
  | .ref a _ => some a
  | .map a => some a
  | _ => none
def hGuard (v : AV) (want : Bool) (op : (AV → St → Res) → Res) (s : St) (k : AV → St → Res) : Res :=
  match v with
  | .bool b => bif b == want then op k else k (.tup []) s
  | .tup _ => k (.tup []) s
  | _ => .fail
def hCond (v : AV) (a b : Res) : Res :=
  match v with
  | .bool t => bif t then a else b
  | _ => .fail
def hCell (s : St) (v : AV) (n : Option Nat) : Option AV :=
  match v with
  | .ref a off =>
    match s.get a, n with
    | some (.cells cs), none => cs[off]?
    | some (.cells cs), some n => if Nat.ble (off + n) cs.length then some (.agg ((cs.drop off).take n)) else none
    | _, _ => none
  | _ => none
def hFin (keep : Bool) (rs : List (Option AV)) (s : St) : Res :=
  match mapO (fun x => x) rs with
  | some vs =>
    bif keep then .ok (tupV (vs.map (AV.pub s.depth))) s
    else
      match mapO (freeze s) vs with
      | some vs =>
        match s.up with
        | own :: up => .ok (tupV vs) { own, up, ro := s.ro }
        | [] => .fail
      | none => .fail
  | none => .fail
def St.enter (s : St) : St := { own := [], up := s.own :: s.up, ro := s.ro }
end Go.Ab
