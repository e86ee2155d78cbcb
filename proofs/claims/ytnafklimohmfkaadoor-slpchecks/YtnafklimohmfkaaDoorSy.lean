/- What the words come to at values of known shapes. -/
import Derived.Test.YtnafklimohmfkaaDoorP
import Derived.IntWalk
namespace Go.Ab
variable {T : Nat → Option AFn} {G : Nat → AV} {X : Nat → List AV → St → Res} {s : St} {k : K1}

theorem zz_load (n : Option Nat) (v : AV) : (PP T G X).load s k n v = loadOp (EV G (callω T G X) loopω) s k n v := rfl
theorem zz_store (n : Nat) (a v : AV) : (PP T G X).store s k n a v = storeOp (EV G (callω T G X) loopω) s k n a v := rfl
theorem z_ret (v : AV) : (PP T G X).ret v s k = k v s := rfl
theorem z_val (v : AV) : (PP T G X).val s k (some v) = k v s := rfl
theorem z_pick (t : Bool) (a b : AV) : (PP T G X).pick s k (.bool t) a b = k (if t = true then a else b) s := by cases t <;> rfl
theorem z_cond (t : Bool) (a b : Res) : (PP T G X).cond (.bool t) a b = if t = true then a else b := by cases t <;> rfl
theorem z_guard (t w : Bool) (op : K1 → Res) : (PP T G X).guard (.bool t) w op s k = if t = w then op k else k (.tup []) s := by cases t <;> cases w <;> rfl
theorem z_guard_tup (l : List AV) (w : Bool) (op : K1 → Res) : (PP T G X).guard (.tup l) w op s k = k (.tup []) s := rfl
def andK (v : AV) (op : K1 → Res) (s : St) (k : K1) : Res :=
  match v with
  | .bool b => bif b then op k else k (.bool false) s
  | _ => .fail
def orK (v : AV) (op : K1 → Res) (s : St) (k : K1) : Res :=
  match v with
  | .bool b => bif b then k (.bool true) s else op k
  | _ => .fail
theorem z_andK (t : Bool) (op : K1 → Res) : andK (.bool t) op s k = if t = true then op k else k (.bool false) s := by cases t <;> rfl
theorem z_orK (t : Bool) (op : K1 → Res) : orK (.bool t) op s k = if t = true then k (.bool true) s else op k := by cases t <;> rfl
theorem z_and1 (v : AV) (o1 : K1 → Res) : (PP T G X).guard v true (o1) s (fun x1 s1 => (PP T G X).pick s1 k v x1 (.bool false)) = andK v (fun k => o1 k) s k := by
  cases v <;> try rfl
  rename_i b; cases b <;> rfl
theorem z_or1 (v : AV) (o1 : K1 → Res) : (PP T G X).guard v false (o1) s (fun x1 s1 => (PP T G X).pick s1 k v (.bool true) x1) = orK v (fun k => o1 k) s k := by
  cases v <;> try rfl
  rename_i b; cases b <;> rfl
theorem z_and2 (v : AV) (o1 : K1 → Res) (o2 : AV → St → K1 → Res) : (PP T G X).guard v true (o1) s (fun x1 s1 => (PP T G X).guard v true (o2 x1 s1) s1 (fun x2 s2 => (PP T G X).pick s2 k v x2 (.bool false))) = andK v (fun k => o1 (fun x1 s1 => o2 x1 s1 k)) s k := by
  cases v <;> try rfl
  rename_i b; cases b <;> rfl
theorem z_or2 (v : AV) (o1 : K1 → Res) (o2 : AV → St → K1 → Res) : (PP T G X).guard v false (o1) s (fun x1 s1 => (PP T G X).guard v false (o2 x1 s1) s1 (fun x2 s2 => (PP T G X).pick s2 k v (.bool true) x2)) = orK v (fun k => o1 (fun x1 s1 => o2 x1 s1 k)) s k := by
  cases v <;> try rfl
  rename_i b; cases b <;> rfl
theorem z_and3 (v : AV) (o1 : K1 → Res) (o2 : AV → St → K1 → Res) (o3 : AV → St → AV → St → K1 → Res) : (PP T G X).guard v true (o1) s (fun x1 s1 => (PP T G X).guard v true (o2 x1 s1) s1 (fun x2 s2 => (PP T G X).guard v true (o3 x1 s1 x2 s2) s2 (fun x3 s3 => (PP T G X).pick s3 k v x3 (.bool false)))) = andK v (fun k => o1 (fun x1 s1 => o2 x1 s1 (fun x2 s2 => o3 x1 s1 x2 s2 k))) s k := by
  cases v <;> try rfl
  rename_i b; cases b <;> rfl
theorem z_or3 (v : AV) (o1 : K1 → Res) (o2 : AV → St → K1 → Res) (o3 : AV → St → AV → St → K1 → Res) : (PP T G X).guard v false (o1) s (fun x1 s1 => (PP T G X).guard v false (o2 x1 s1) s1 (fun x2 s2 => (PP T G X).guard v false (o3 x1 s1 x2 s2) s2 (fun x3 s3 => (PP T G X).pick s3 k v (.bool true) x3))) = orK v (fun k => o1 (fun x1 s1 => o2 x1 s1 (fun x2 s2 => o3 x1 s1 x2 s2 k))) s k := by
  cases v <;> try rfl
  rename_i b; cases b <;> rfl
theorem z_and4 (v : AV) (o1 : K1 → Res) (o2 : AV → St → K1 → Res) (o3 : AV → St → AV → St → K1 → Res) (o4 : AV → St → AV → St → AV → St → K1 → Res) : (PP T G X).guard v true (o1) s (fun x1 s1 => (PP T G X).guard v true (o2 x1 s1) s1 (fun x2 s2 => (PP T G X).guard v true (o3 x1 s1 x2 s2) s2 (fun x3 s3 => (PP T G X).guard v true (o4 x1 s1 x2 s2 x3 s3) s3 (fun x4 s4 => (PP T G X).pick s4 k v x4 (.bool false))))) = andK v (fun k => o1 (fun x1 s1 => o2 x1 s1 (fun x2 s2 => o3 x1 s1 x2 s2 (fun x3 s3 => o4 x1 s1 x2 s2 x3 s3 k)))) s k := by
  cases v <;> try rfl
  rename_i b; cases b <;> rfl
theorem z_or4 (v : AV) (o1 : K1 → Res) (o2 : AV → St → K1 → Res) (o3 : AV → St → AV → St → K1 → Res) (o4 : AV → St → AV → St → AV → St → K1 → Res) : (PP T G X).guard v false (o1) s (fun x1 s1 => (PP T G X).guard v false (o2 x1 s1) s1 (fun x2 s2 => (PP T G X).guard v false (o3 x1 s1 x2 s2) s2 (fun x3 s3 => (PP T G X).guard v false (o4 x1 s1 x2 s2 x3 s3) s3 (fun x4 s4 => (PP T G X).pick s4 k v (.bool true) x4)))) = orK v (fun k => o1 (fun x1 s1 => o2 x1 s1 (fun x2 s2 => o3 x1 s1 x2 s2 (fun x3 s3 => o4 x1 s1 x2 s2 x3 s3 k)))) s k := by
  cases v <;> try rfl
  rename_i b; cases b <;> rfl
theorem z_and5 (v : AV) (o1 : K1 → Res) (o2 : AV → St → K1 → Res) (o3 : AV → St → AV → St → K1 → Res) (o4 : AV → St → AV → St → AV → St → K1 → Res) (o5 : AV → St → AV → St → AV → St → AV → St → K1 → Res) : (PP T G X).guard v true (o1) s (fun x1 s1 => (PP T G X).guard v true (o2 x1 s1) s1 (fun x2 s2 => (PP T G X).guard v true (o3 x1 s1 x2 s2) s2 (fun x3 s3 => (PP T G X).guard v true (o4 x1 s1 x2 s2 x3 s3) s3 (fun x4 s4 => (PP T G X).guard v true (o5 x1 s1 x2 s2 x3 s3 x4 s4) s4 (fun x5 s5 => (PP T G X).pick s5 k v x5 (.bool false)))))) = andK v (fun k => o1 (fun x1 s1 => o2 x1 s1 (fun x2 s2 => o3 x1 s1 x2 s2 (fun x3 s3 => o4 x1 s1 x2 s2 x3 s3 (fun x4 s4 => o5 x1 s1 x2 s2 x3 s3 x4 s4 k))))) s k := by
  cases v <;> try rfl
  rename_i b; cases b <;> rfl
theorem z_or5 (v : AV) (o1 : K1 → Res) (o2 : AV → St → K1 → Res) (o3 : AV → St → AV → St → K1 → Res) (o4 : AV → St → AV → St → AV → St → K1 → Res) (o5 : AV → St → AV → St → AV → St → AV → St → K1 → Res) : (PP T G X).guard v false (o1) s (fun x1 s1 => (PP T G X).guard v false (o2 x1 s1) s1 (fun x2 s2 => (PP T G X).guard v false (o3 x1 s1 x2 s2) s2 (fun x3 s3 => (PP T G X).guard v false (o4 x1 s1 x2 s2 x3 s3) s3 (fun x4 s4 => (PP T G X).guard v false (o5 x1 s1 x2 s2 x3 s3 x4 s4) s4 (fun x5 s5 => (PP T G X).pick s5 k v (.bool true) x5))))) = orK v (fun k => o1 (fun x1 s1 => o2 x1 s1 (fun x2 s2 => o3 x1 s1 x2 s2 (fun x3 s3 => o4 x1 s1 x2 s2 x3 s3 (fun x4 s4 => o5 x1 s1 x2 s2 x3 s3 x4 s4 k))))) s k := by
  cases v <;> try rfl
  rename_i b; cases b <;> rfl
theorem z_and6 (v : AV) (o1 : K1 → Res) (o2 : AV → St → K1 → Res) (o3 : AV → St → AV → St → K1 → Res) (o4 : AV → St → AV → St → AV → St → K1 → Res) (o5 : AV → St → AV → St → AV → St → AV → St → K1 → Res) (o6 : AV → St → AV → St → AV → St → AV → St → AV → St → K1 → Res) : (PP T G X).guard v true (o1) s (fun x1 s1 => (PP T G X).guard v true (o2 x1 s1) s1 (fun x2 s2 => (PP T G X).guard v true (o3 x1 s1 x2 s2) s2 (fun x3 s3 => (PP T G X).guard v true (o4 x1 s1 x2 s2 x3 s3) s3 (fun x4 s4 => (PP T G X).guard v true (o5 x1 s1 x2 s2 x3 s3 x4 s4) s4 (fun x5 s5 => (PP T G X).guard v true (o6 x1 s1 x2 s2 x3 s3 x4 s4 x5 s5) s5 (fun x6 s6 => (PP T G X).pick s6 k v x6 (.bool false))))))) = andK v (fun k => o1 (fun x1 s1 => o2 x1 s1 (fun x2 s2 => o3 x1 s1 x2 s2 (fun x3 s3 => o4 x1 s1 x2 s2 x3 s3 (fun x4 s4 => o5 x1 s1 x2 s2 x3 s3 x4 s4 (fun x5 s5 => o6 x1 s1 x2 s2 x3 s3 x4 s4 x5 s5 k)))))) s k := by
  cases v <;> try rfl
  rename_i b; cases b <;> rfl
theorem z_or6 (v : AV) (o1 : K1 → Res) (o2 : AV → St → K1 → Res) (o3 : AV → St → AV → St → K1 → Res) (o4 : AV → St → AV → St → AV → St → K1 → Res) (o5 : AV → St → AV → St → AV → St → AV → St → K1 → Res) (o6 : AV → St → AV → St → AV → St → AV → St → AV → St → K1 → Res) : (PP T G X).guard v false (o1) s (fun x1 s1 => (PP T G X).guard v false (o2 x1 s1) s1 (fun x2 s2 => (PP T G X).guard v false (o3 x1 s1 x2 s2) s2 (fun x3 s3 => (PP T G X).guard v false (o4 x1 s1 x2 s2 x3 s3) s3 (fun x4 s4 => (PP T G X).guard v false (o5 x1 s1 x2 s2 x3 s3 x4 s4) s4 (fun x5 s5 => (PP T G X).guard v false (o6 x1 s1 x2 s2 x3 s3 x4 s4 x5 s5) s5 (fun x6 s6 => (PP T G X).pick s6 k v (.bool true) x6)))))) = orK v (fun k => o1 (fun x1 s1 => o2 x1 s1 (fun x2 s2 => o3 x1 s1 x2 s2 (fun x3 s3 => o4 x1 s1 x2 s2 x3 s3 (fun x4 s4 => o5 x1 s1 x2 s2 x3 s3 x4 s4 (fun x5 s5 => o6 x1 s1 x2 s2 x3 s3 x4 s4 x5 s5 k)))))) s k := by
  cases v <;> try rfl
  rename_i b; cases b <;> rfl
theorem z_and7 (v : AV) (o1 : K1 → Res) (o2 : AV → St → K1 → Res) (o3 : AV → St → AV → St → K1 → Res) (o4 : AV → St → AV → St → AV → St → K1 → Res) (o5 : AV → St → AV → St → AV → St → AV → St → K1 → Res) (o6 : AV → St → AV → St → AV → St → AV → St → AV → St → K1 → Res) (o7 : AV → St → AV → St → AV → St → AV → St → AV → St → AV → St → K1 → Res) : (PP T G X).guard v true (o1) s (fun x1 s1 => (PP T G X).guard v true (o2 x1 s1) s1 (fun x2 s2 => (PP T G X).guard v true (o3 x1 s1 x2 s2) s2 (fun x3 s3 => (PP T G X).guard v true (o4 x1 s1 x2 s2 x3 s3) s3 (fun x4 s4 => (PP T G X).guard v true (o5 x1 s1 x2 s2 x3 s3 x4 s4) s4 (fun x5 s5 => (PP T G X).guard v true (o6 x1 s1 x2 s2 x3 s3 x4 s4 x5 s5) s5 (fun x6 s6 => (PP T G X).guard v true (o7 x1 s1 x2 s2 x3 s3 x4 s4 x5 s5 x6 s6) s6 (fun x7 s7 => (PP T G X).pick s7 k v x7 (.bool false)))))))) = andK v (fun k => o1 (fun x1 s1 => o2 x1 s1 (fun x2 s2 => o3 x1 s1 x2 s2 (fun x3 s3 => o4 x1 s1 x2 s2 x3 s3 (fun x4 s4 => o5 x1 s1 x2 s2 x3 s3 x4 s4 (fun x5 s5 => o6 x1 s1 x2 s2 x3 s3 x4 s4 x5 s5 (fun x6 s6 => o7 x1 s1 x2 s2 x3 s3 x4 s4 x5 s5 x6 s6 k))))))) s k := by
  cases v <;> try rfl
  rename_i b; cases b <;> rfl
theorem z_or7 (v : AV) (o1 : K1 → Res) (o2 : AV → St → K1 → Res) (o3 : AV → St → AV → St → K1 → Res) (o4 : AV → St → AV → St → AV → St → K1 → Res) (o5 : AV → St → AV → St → AV → St → AV → St → K1 → Res) (o6 : AV → St → AV → St → AV → St → AV → St → AV → St → K1 → Res) (o7 : AV → St → AV → St → AV → St → AV → St → AV → St → AV → St → K1 → Res) : (PP T G X).guard v false (o1) s (fun x1 s1 => (PP T G X).guard v false (o2 x1 s1) s1 (fun x2 s2 => (PP T G X).guard v false (o3 x1 s1 x2 s2) s2 (fun x3 s3 => (PP T G X).guard v false (o4 x1 s1 x2 s2 x3 s3) s3 (fun x4 s4 => (PP T G X).guard v false (o5 x1 s1 x2 s2 x3 s3 x4 s4) s4 (fun x5 s5 => (PP T G X).guard v false (o6 x1 s1 x2 s2 x3 s3 x4 s4 x5 s5) s5 (fun x6 s6 => (PP T G X).guard v false (o7 x1 s1 x2 s2 x3 s3 x4 s4 x5 s5 x6 s6) s6 (fun x7 s7 => (PP T G X).pick s7 k v (.bool true) x7))))))) = orK v (fun k => o1 (fun x1 s1 => o2 x1 s1 (fun x2 s2 => o3 x1 s1 x2 s2 (fun x3 s3 => o4 x1 s1 x2 s2 x3 s3 (fun x4 s4 => o5 x1 s1 x2 s2 x3 s3 x4 s4 (fun x5 s5 => o6 x1 s1 x2 s2 x3 s3 x4 s4 x5 s5 (fun x6 s6 => o7 x1 s1 x2 s2 x3 s3 x4 s4 x5 s5 x6 s6 k))))))) s k := by
  cases v <;> try rfl
  rename_i b; cases b <;> rfl
theorem z_and8 (v : AV) (o1 : K1 → Res) (o2 : AV → St → K1 → Res) (o3 : AV → St → AV → St → K1 → Res) (o4 : AV → St → AV → St → AV → St → K1 → Res) (o5 : AV → St → AV → St → AV → St → AV → St → K1 → Res) (o6 : AV → St → AV → St → AV → St → AV → St → AV → St → K1 → Res) (o7 : AV → St → AV → St → AV → St → AV → St → AV → St → AV → St → K1 → Res) (o8 : AV → St → AV → St → AV → St → AV → St → AV → St → AV → St → AV → St → K1 → Res) : (PP T G X).guard v true (o1) s (fun x1 s1 => (PP T G X).guard v true (o2 x1 s1) s1 (fun x2 s2 => (PP T G X).guard v true (o3 x1 s1 x2 s2) s2 (fun x3 s3 => (PP T G X).guard v true (o4 x1 s1 x2 s2 x3 s3) s3 (fun x4 s4 => (PP T G X).guard v true (o5 x1 s1 x2 s2 x3 s3 x4 s4) s4 (fun x5 s5 => (PP T G X).guard v true (o6 x1 s1 x2 s2 x3 s3 x4 s4 x5 s5) s5 (fun x6 s6 => (PP T G X).guard v true (o7 x1 s1 x2 s2 x3 s3 x4 s4 x5 s5 x6 s6) s6 (fun x7 s7 => (PP T G X).guard v true (o8 x1 s1 x2 s2 x3 s3 x4 s4 x5 s5 x6 s6 x7 s7) s7 (fun x8 s8 => (PP T G X).pick s8 k v x8 (.bool false))))))))) = andK v (fun k => o1 (fun x1 s1 => o2 x1 s1 (fun x2 s2 => o3 x1 s1 x2 s2 (fun x3 s3 => o4 x1 s1 x2 s2 x3 s3 (fun x4 s4 => o5 x1 s1 x2 s2 x3 s3 x4 s4 (fun x5 s5 => o6 x1 s1 x2 s2 x3 s3 x4 s4 x5 s5 (fun x6 s6 => o7 x1 s1 x2 s2 x3 s3 x4 s4 x5 s5 x6 s6 (fun x7 s7 => o8 x1 s1 x2 s2 x3 s3 x4 s4 x5 s5 x6 s6 x7 s7 k)))))))) s k := by
  cases v <;> try rfl
  rename_i b; cases b <;> rfl
theorem z_or8 (v : AV) (o1 : K1 → Res) (o2 : AV → St → K1 → Res) (o3 : AV → St → AV → St → K1 → Res) (o4 : AV → St → AV → St → AV → St → K1 → Res) (o5 : AV → St → AV → St → AV → St → AV → St → K1 → Res) (o6 : AV → St → AV → St → AV → St → AV → St → AV → St → K1 → Res) (o7 : AV → St → AV → St → AV → St → AV → St → AV → St → AV → St → K1 → Res) (o8 : AV → St → AV → St → AV → St → AV → St → AV → St → AV → St → AV → St → K1 → Res) : (PP T G X).guard v false (o1) s (fun x1 s1 => (PP T G X).guard v false (o2 x1 s1) s1 (fun x2 s2 => (PP T G X).guard v false (o3 x1 s1 x2 s2) s2 (fun x3 s3 => (PP T G X).guard v false (o4 x1 s1 x2 s2 x3 s3) s3 (fun x4 s4 => (PP T G X).guard v false (o5 x1 s1 x2 s2 x3 s3 x4 s4) s4 (fun x5 s5 => (PP T G X).guard v false (o6 x1 s1 x2 s2 x3 s3 x4 s4 x5 s5) s5 (fun x6 s6 => (PP T G X).guard v false (o7 x1 s1 x2 s2 x3 s3 x4 s4 x5 s5 x6 s6) s6 (fun x7 s7 => (PP T G X).guard v false (o8 x1 s1 x2 s2 x3 s3 x4 s4 x5 s5 x6 s6 x7 s7) s7 (fun x8 s8 => (PP T G X).pick s8 k v (.bool true) x8)))))))) = orK v (fun k => o1 (fun x1 s1 => o2 x1 s1 (fun x2 s2 => o3 x1 s1 x2 s2 (fun x3 s3 => o4 x1 s1 x2 s2 x3 s3 (fun x4 s4 => o5 x1 s1 x2 s2 x3 s3 x4 s4 (fun x5 s5 => o6 x1 s1 x2 s2 x3 s3 x4 s4 x5 s5 (fun x6 s6 => o7 x1 s1 x2 s2 x3 s3 x4 s4 x5 s5 x6 s6 (fun x7 s7 => o8 x1 s1 x2 s2 x3 s3 x4 s4 x5 s5 x6 s6 x7 s7 k)))))))) s k := by
  cases v <;> try rfl
  rename_i b; cases b <;> rfl
theorem z_and9 (v : AV) (o1 : K1 → Res) (o2 : AV → St → K1 → Res) (o3 : AV → St → AV → St → K1 → Res) (o4 : AV → St → AV → St → AV → St → K1 → Res) (o5 : AV → St → AV → St → AV → St → AV → St → K1 → Res) (o6 : AV → St → AV → St → AV → St → AV → St → AV → St → K1 → Res) (o7 : AV → St → AV → St → AV → St → AV → St → AV → St → AV → St → K1 → Res) (o8 : AV → St → AV → St → AV → St → AV → St → AV → St → AV → St → AV → St → K1 → Res) (o9 : AV → St → AV → St → AV → St → AV → St → AV → St → AV → St → AV → St → AV → St → K1 → Res) : (PP T G X).guard v true (o1) s (fun x1 s1 => (PP T G X).guard v true (o2 x1 s1) s1 (fun x2 s2 => (PP T G X).guard v true (o3 x1 s1 x2 s2) s2 (fun x3 s3 => (PP T G X).guard v true (o4 x1 s1 x2 s2 x3 s3) s3 (fun x4 s4 => (PP T G X).guard v true (o5 x1 s1 x2 s2 x3 s3 x4 s4) s4 (fun x5 s5 => (PP T G X).guard v true (o6 x1 s1 x2 s2 x3 s3 x4 s4 x5 s5) s5 (fun x6 s6 => (PP T G X).guard v true (o7 x1 s1 x2 s2 x3 s3 x4 s4 x5 s5 x6 s6) s6 (fun x7 s7 => (PP T G X).guard v true (o8 x1 s1 x2 s2 x3 s3 x4 s4 x5 s5 x6 s6 x7 s7) s7 (fun x8 s8 => (PP T G X).guard v true (o9 x1 s1 x2 s2 x3 s3 x4 s4 x5 s5 x6 s6 x7 s7 x8 s8) s8 (fun x9 s9 => (PP T G X).pick s9 k v x9 (.bool false)))))))))) = andK v (fun k => o1 (fun x1 s1 => o2 x1 s1 (fun x2 s2 => o3 x1 s1 x2 s2 (fun x3 s3 => o4 x1 s1 x2 s2 x3 s3 (fun x4 s4 => o5 x1 s1 x2 s2 x3 s3 x4 s4 (fun x5 s5 => o6 x1 s1 x2 s2 x3 s3 x4 s4 x5 s5 (fun x6 s6 => o7 x1 s1 x2 s2 x3 s3 x4 s4 x5 s5 x6 s6 (fun x7 s7 => o8 x1 s1 x2 s2 x3 s3 x4 s4 x5 s5 x6 s6 x7 s7 (fun x8 s8 => o9 x1 s1 x2 s2 x3 s3 x4 s4 x5 s5 x6 s6 x7 s7 x8 s8 k))))))))) s k := by
  cases v <;> try rfl
  rename_i b; cases b <;> rfl
theorem z_or9 (v : AV) (o1 : K1 → Res) (o2 : AV → St → K1 → Res) (o3 : AV → St → AV → St → K1 → Res) (o4 : AV → St → AV → St → AV → St → K1 → Res) (o5 : AV → St → AV → St → AV → St → AV → St → K1 → Res) (o6 : AV → St → AV → St → AV → St → AV → St → AV → St → K1 → Res) (o7 : AV → St → AV → St → AV → St → AV → St → AV → St → AV → St → K1 → Res) (o8 : AV → St → AV → St → AV → St → AV → St → AV → St → AV → St → AV → St → K1 → Res) (o9 : AV → St → AV → St → AV → St → AV → St → AV → St → AV → St → AV → St → AV → St → K1 → Res) : (PP T G X).guard v false (o1) s (fun x1 s1 => (PP T G X).guard v false (o2 x1 s1) s1 (fun x2 s2 => (PP T G X).guard v false (o3 x1 s1 x2 s2) s2 (fun x3 s3 => (PP T G X).guard v false (o4 x1 s1 x2 s2 x3 s3) s3 (fun x4 s4 => (PP T G X).guard v false (o5 x1 s1 x2 s2 x3 s3 x4 s4) s4 (fun x5 s5 => (PP T G X).guard v false (o6 x1 s1 x2 s2 x3 s3 x4 s4 x5 s5) s5 (fun x6 s6 => (PP T G X).guard v false (o7 x1 s1 x2 s2 x3 s3 x4 s4 x5 s5 x6 s6) s6 (fun x7 s7 => (PP T G X).guard v false (o8 x1 s1 x2 s2 x3 s3 x4 s4 x5 s5 x6 s6 x7 s7) s7 (fun x8 s8 => (PP T G X).guard v false (o9 x1 s1 x2 s2 x3 s3 x4 s4 x5 s5 x6 s6 x7 s7 x8 s8) s8 (fun x9 s9 => (PP T G X).pick s9 k v (.bool true) x9))))))))) = orK v (fun k => o1 (fun x1 s1 => o2 x1 s1 (fun x2 s2 => o3 x1 s1 x2 s2 (fun x3 s3 => o4 x1 s1 x2 s2 x3 s3 (fun x4 s4 => o5 x1 s1 x2 s2 x3 s3 x4 s4 (fun x5 s5 => o6 x1 s1 x2 s2 x3 s3 x4 s4 x5 s5 (fun x6 s6 => o7 x1 s1 x2 s2 x3 s3 x4 s4 x5 s5 x6 s6 (fun x7 s7 => o8 x1 s1 x2 s2 x3 s3 x4 s4 x5 s5 x6 s6 x7 s7 (fun x8 s8 => o9 x1 s1 x2 s2 x3 s3 x4 s4 x5 s5 x6 s6 x7 s7 x8 s8 k))))))))) s k := by
  cases v <;> try rfl
  rename_i b; cases b <;> rfl
theorem z_and10 (v : AV) (o1 : K1 → Res) (o2 : AV → St → K1 → Res) (o3 : AV → St → AV → St → K1 → Res) (o4 : AV → St → AV → St → AV → St → K1 → Res) (o5 : AV → St → AV → St → AV → St → AV → St → K1 → Res) (o6 : AV → St → AV → St → AV → St → AV → St → AV → St → K1 → Res) (o7 : AV → St → AV → St → AV → St → AV → St → AV → St → AV → St → K1 → Res) (o8 : AV → St → AV → St → AV → St → AV → St → AV → St → AV → St → AV → St → K1 → Res) (o9 : AV → St → AV → St → AV → St → AV → St → AV → St → AV → St → AV → St → AV → St → K1 → Res) (o10 : AV → St → AV → St → AV → St → AV → St → AV → St → AV → St → AV → St → AV → St → AV → St → K1 → Res) : (PP T G X).guard v true (o1) s (fun x1 s1 => (PP T G X).guard v true (o2 x1 s1) s1 (fun x2 s2 => (PP T G X).guard v true (o3 x1 s1 x2 s2) s2 (fun x3 s3 => (PP T G X).guard v true (o4 x1 s1 x2 s2 x3 s3) s3 (fun x4 s4 => (PP T G X).guard v true (o5 x1 s1 x2 s2 x3 s3 x4 s4) s4 (fun x5 s5 => (PP T G X).guard v true (o6 x1 s1 x2 s2 x3 s3 x4 s4 x5 s5) s5 (fun x6 s6 => (PP T G X).guard v true (o7 x1 s1 x2 s2 x3 s3 x4 s4 x5 s5 x6 s6) s6 (fun x7 s7 => (PP T G X).guard v true (o8 x1 s1 x2 s2 x3 s3 x4 s4 x5 s5 x6 s6 x7 s7) s7 (fun x8 s8 => (PP T G X).guard v true (o9 x1 s1 x2 s2 x3 s3 x4 s4 x5 s5 x6 s6 x7 s7 x8 s8) s8 (fun x9 s9 => (PP T G X).guard v true (o10 x1 s1 x2 s2 x3 s3 x4 s4 x5 s5 x6 s6 x7 s7 x8 s8 x9 s9) s9 (fun x10 s10 => (PP T G X).pick s10 k v x10 (.bool false))))))))))) = andK v (fun k => o1 (fun x1 s1 => o2 x1 s1 (fun x2 s2 => o3 x1 s1 x2 s2 (fun x3 s3 => o4 x1 s1 x2 s2 x3 s3 (fun x4 s4 => o5 x1 s1 x2 s2 x3 s3 x4 s4 (fun x5 s5 => o6 x1 s1 x2 s2 x3 s3 x4 s4 x5 s5 (fun x6 s6 => o7 x1 s1 x2 s2 x3 s3 x4 s4 x5 s5 x6 s6 (fun x7 s7 => o8 x1 s1 x2 s2 x3 s3 x4 s4 x5 s5 x6 s6 x7 s7 (fun x8 s8 => o9 x1 s1 x2 s2 x3 s3 x4 s4 x5 s5 x6 s6 x7 s7 x8 s8 (fun x9 s9 => o10 x1 s1 x2 s2 x3 s3 x4 s4 x5 s5 x6 s6 x7 s7 x8 s8 x9 s9 k)))))))))) s k := by
  cases v <;> try rfl
  rename_i b; cases b <;> rfl
theorem z_or10 (v : AV) (o1 : K1 → Res) (o2 : AV → St → K1 → Res) (o3 : AV → St → AV → St → K1 → Res) (o4 : AV → St → AV → St → AV → St → K1 → Res) (o5 : AV → St → AV → St → AV → St → AV → St → K1 → Res) (o6 : AV → St → AV → St → AV → St → AV → St → AV → St → K1 → Res) (o7 : AV → St → AV → St → AV → St → AV → St → AV → St → AV → St → K1 → Res) (o8 : AV → St → AV → St → AV → St → AV → St → AV → St → AV → St → AV → St → K1 → Res) (o9 : AV → St → AV → St → AV → St → AV → St → AV → St → AV → St → AV → St → AV → St → K1 → Res) (o10 : AV → St → AV → St → AV → St → AV → St → AV → St → AV → St → AV → St → AV → St → AV → St → K1 → Res) : (PP T G X).guard v false (o1) s (fun x1 s1 => (PP T G X).guard v false (o2 x1 s1) s1 (fun x2 s2 => (PP T G X).guard v false (o3 x1 s1 x2 s2) s2 (fun x3 s3 => (PP T G X).guard v false (o4 x1 s1 x2 s2 x3 s3) s3 (fun x4 s4 => (PP T G X).guard v false (o5 x1 s1 x2 s2 x3 s3 x4 s4) s4 (fun x5 s5 => (PP T G X).guard v false (o6 x1 s1 x2 s2 x3 s3 x4 s4 x5 s5) s5 (fun x6 s6 => (PP T G X).guard v false (o7 x1 s1 x2 s2 x3 s3 x4 s4 x5 s5 x6 s6) s6 (fun x7 s7 => (PP T G X).guard v false (o8 x1 s1 x2 s2 x3 s3 x4 s4 x5 s5 x6 s6 x7 s7) s7 (fun x8 s8 => (PP T G X).guard v false (o9 x1 s1 x2 s2 x3 s3 x4 s4 x5 s5 x6 s6 x7 s7 x8 s8) s8 (fun x9 s9 => (PP T G X).guard v false (o10 x1 s1 x2 s2 x3 s3 x4 s4 x5 s5 x6 s6 x7 s7 x8 s8 x9 s9) s9 (fun x10 s10 => (PP T G X).pick s10 k v (.bool true) x10)))))))))) = orK v (fun k => o1 (fun x1 s1 => o2 x1 s1 (fun x2 s2 => o3 x1 s1 x2 s2 (fun x3 s3 => o4 x1 s1 x2 s2 x3 s3 (fun x4 s4 => o5 x1 s1 x2 s2 x3 s3 x4 s4 (fun x5 s5 => o6 x1 s1 x2 s2 x3 s3 x4 s4 x5 s5 (fun x6 s6 => o7 x1 s1 x2 s2 x3 s3 x4 s4 x5 s5 x6 s6 (fun x7 s7 => o8 x1 s1 x2 s2 x3 s3 x4 s4 x5 s5 x6 s6 x7 s7 (fun x8 s8 => o9 x1 s1 x2 s2 x3 s3 x4 s4 x5 s5 x6 s6 x7 s7 x8 s8 (fun x9 s9 => o10 x1 s1 x2 s2 x3 s3 x4 s4 x5 s5 x6 s6 x7 s7 x8 s8 x9 s9 k)))))))))) s k := by
  cases v <;> try rfl
  rename_i b; cases b <;> rfl
theorem z_and11 (v : AV) (o1 : K1 → Res) (o2 : AV → St → K1 → Res) (o3 : AV → St → AV → St → K1 → Res) (o4 : AV → St → AV → St → AV → St → K1 → Res) (o5 : AV → St → AV → St → AV → St → AV → St → K1 → Res) (o6 : AV → St → AV → St → AV → St → AV → St → AV → St → K1 → Res) (o7 : AV → St → AV → St → AV → St → AV → St → AV → St → AV → St → K1 → Res) (o8 : AV → St → AV → St → AV → St → AV → St → AV → St → AV → St → AV → St → K1 → Res) (o9 : AV → St → AV → St → AV → St → AV → St → AV → St → AV → St → AV → St → AV → St → K1 → Res) (o10 : AV → St → AV → St → AV → St → AV → St → AV → St → AV → St → AV → St → AV → St → AV → St → K1 → Res) (o11 : AV → St → AV → St → AV → St → AV → St → AV → St → AV → St → AV → St → AV → St → AV → St → AV → St → K1 → Res) : (PP T G X).guard v true (o1) s (fun x1 s1 => (PP T G X).guard v true (o2 x1 s1) s1 (fun x2 s2 => (PP T G X).guard v true (o3 x1 s1 x2 s2) s2 (fun x3 s3 => (PP T G X).guard v true (o4 x1 s1 x2 s2 x3 s3) s3 (fun x4 s4 => (PP T G X).guard v true (o5 x1 s1 x2 s2 x3 s3 x4 s4) s4 (fun x5 s5 => (PP T G X).guard v true (o6 x1 s1 x2 s2 x3 s3 x4 s4 x5 s5) s5 (fun x6 s6 => (PP T G X).guard v true (o7 x1 s1 x2 s2 x3 s3 x4 s4 x5 s5 x6 s6) s6 (fun x7 s7 => (PP T G X).guard v true (o8 x1 s1 x2 s2 x3 s3 x4 s4 x5 s5 x6 s6 x7 s7) s7 (fun x8 s8 => (PP T G X).guard v true (o9 x1 s1 x2 s2 x3 s3 x4 s4 x5 s5 x6 s6 x7 s7 x8 s8) s8 (fun x9 s9 => (PP T G X).guard v true (o10 x1 s1 x2 s2 x3 s3 x4 s4 x5 s5 x6 s6 x7 s7 x8 s8 x9 s9) s9 (fun x10 s10 => (PP T G X).guard v true (o11 x1 s1 x2 s2 x3 s3 x4 s4 x5 s5 x6 s6 x7 s7 x8 s8 x9 s9 x10 s10) s10 (fun x11 s11 => (PP T G X).pick s11 k v x11 (.bool false)))))))))))) = andK v (fun k => o1 (fun x1 s1 => o2 x1 s1 (fun x2 s2 => o3 x1 s1 x2 s2 (fun x3 s3 => o4 x1 s1 x2 s2 x3 s3 (fun x4 s4 => o5 x1 s1 x2 s2 x3 s3 x4 s4 (fun x5 s5 => o6 x1 s1 x2 s2 x3 s3 x4 s4 x5 s5 (fun x6 s6 => o7 x1 s1 x2 s2 x3 s3 x4 s4 x5 s5 x6 s6 (fun x7 s7 => o8 x1 s1 x2 s2 x3 s3 x4 s4 x5 s5 x6 s6 x7 s7 (fun x8 s8 => o9 x1 s1 x2 s2 x3 s3 x4 s4 x5 s5 x6 s6 x7 s7 x8 s8 (fun x9 s9 => o10 x1 s1 x2 s2 x3 s3 x4 s4 x5 s5 x6 s6 x7 s7 x8 s8 x9 s9 (fun x10 s10 => o11 x1 s1 x2 s2 x3 s3 x4 s4 x5 s5 x6 s6 x7 s7 x8 s8 x9 s9 x10 s10 k))))))))))) s k := by
  cases v <;> try rfl
  rename_i b; cases b <;> rfl
theorem z_or11 (v : AV) (o1 : K1 → Res) (o2 : AV → St → K1 → Res) (o3 : AV → St → AV → St → K1 → Res) (o4 : AV → St → AV → St → AV → St → K1 → Res) (o5 : AV → St → AV → St → AV → St → AV → St → K1 → Res) (o6 : AV → St → AV → St → AV → St → AV → St → AV → St → K1 → Res) (o7 : AV → St → AV → St → AV → St → AV → St → AV → St → AV → St → K1 → Res) (o8 : AV → St → AV → St → AV → St → AV → St → AV → St → AV → St → AV → St → K1 → Res) (o9 : AV → St → AV → St → AV → St → AV → St → AV → St → AV → St → AV → St → AV → St → K1 → Res) (o10 : AV → St → AV → St → AV → St → AV → St → AV → St → AV → St → AV → St → AV → St → AV → St → K1 → Res) (o11 : AV → St → AV → St → AV → St → AV → St → AV → St → AV → St → AV → St → AV → St → AV → St → AV → St → K1 → Res) : (PP T G X).guard v false (o1) s (fun x1 s1 => (PP T G X).guard v false (o2 x1 s1) s1 (fun x2 s2 => (PP T G X).guard v false (o3 x1 s1 x2 s2) s2 (fun x3 s3 => (PP T G X).guard v false (o4 x1 s1 x2 s2 x3 s3) s3 (fun x4 s4 => (PP T G X).guard v false (o5 x1 s1 x2 s2 x3 s3 x4 s4) s4 (fun x5 s5 => (PP T G X).guard v false (o6 x1 s1 x2 s2 x3 s3 x4 s4 x5 s5) s5 (fun x6 s6 => (PP T G X).guard v false (o7 x1 s1 x2 s2 x3 s3 x4 s4 x5 s5 x6 s6) s6 (fun x7 s7 => (PP T G X).guard v false (o8 x1 s1 x2 s2 x3 s3 x4 s4 x5 s5 x6 s6 x7 s7) s7 (fun x8 s8 => (PP T G X).guard v false (o9 x1 s1 x2 s2 x3 s3 x4 s4 x5 s5 x6 s6 x7 s7 x8 s8) s8 (fun x9 s9 => (PP T G X).guard v false (o10 x1 s1 x2 s2 x3 s3 x4 s4 x5 s5 x6 s6 x7 s7 x8 s8 x9 s9) s9 (fun x10 s10 => (PP T G X).guard v false (o11 x1 s1 x2 s2 x3 s3 x4 s4 x5 s5 x6 s6 x7 s7 x8 s8 x9 s9 x10 s10) s10 (fun x11 s11 => (PP T G X).pick s11 k v (.bool true) x11))))))))))) = orK v (fun k => o1 (fun x1 s1 => o2 x1 s1 (fun x2 s2 => o3 x1 s1 x2 s2 (fun x3 s3 => o4 x1 s1 x2 s2 x3 s3 (fun x4 s4 => o5 x1 s1 x2 s2 x3 s3 x4 s4 (fun x5 s5 => o6 x1 s1 x2 s2 x3 s3 x4 s4 x5 s5 (fun x6 s6 => o7 x1 s1 x2 s2 x3 s3 x4 s4 x5 s5 x6 s6 (fun x7 s7 => o8 x1 s1 x2 s2 x3 s3 x4 s4 x5 s5 x6 s6 x7 s7 (fun x8 s8 => o9 x1 s1 x2 s2 x3 s3 x4 s4 x5 s5 x6 s6 x7 s7 x8 s8 (fun x9 s9 => o10 x1 s1 x2 s2 x3 s3 x4 s4 x5 s5 x6 s6 x7 s7 x8 s8 x9 s9 (fun x10 s10 => o11 x1 s1 x2 s2 x3 s3 x4 s4 x5 s5 x6 s6 x7 s7 x8 s8 x9 s9 x10 s10 k))))))))))) s k := by
  cases v <;> try rfl
  rename_i b; cases b <;> rfl
theorem z_and12 (v : AV) (o1 : K1 → Res) (o2 : AV → St → K1 → Res) (o3 : AV → St → AV → St → K1 → Res) (o4 : AV → St → AV → St → AV → St → K1 → Res) (o5 : AV → St → AV → St → AV → St → AV → St → K1 → Res) (o6 : AV → St → AV → St → AV → St → AV → St → AV → St → K1 → Res) (o7 : AV → St → AV → St → AV → St → AV → St → AV → St → AV → St → K1 → Res) (o8 : AV → St → AV → St → AV → St → AV → St → AV → St → AV → St → AV → St → K1 → Res) (o9 : AV → St → AV → St → AV → St → AV → St → AV → St → AV → St → AV → St → AV → St → K1 → Res) (o10 : AV → St → AV → St → AV → St → AV → St → AV → St → AV → St → AV → St → AV → St → AV → St → K1 → Res) (o11 : AV → St → AV → St → AV → St → AV → St → AV → St → AV → St → AV → St → AV → St → AV → St → AV → St → K1 → Res) (o12 : AV → St → AV → St → AV → St → AV → St → AV → St → AV → St → AV → St → AV → St → AV → St → AV → St → AV → St → K1 → Res) : (PP T G X).guard v true (o1) s (fun x1 s1 => (PP T G X).guard v true (o2 x1 s1) s1 (fun x2 s2 => (PP T G X).guard v true (o3 x1 s1 x2 s2) s2 (fun x3 s3 => (PP T G X).guard v true (o4 x1 s1 x2 s2 x3 s3) s3 (fun x4 s4 => (PP T G X).guard v true (o5 x1 s1 x2 s2 x3 s3 x4 s4) s4 (fun x5 s5 => (PP T G X).guard v true (o6 x1 s1 x2 s2 x3 s3 x4 s4 x5 s5) s5 (fun x6 s6 => (PP T G X).guard v true (o7 x1 s1 x2 s2 x3 s3 x4 s4 x5 s5 x6 s6) s6 (fun x7 s7 => (PP T G X).guard v true (o8 x1 s1 x2 s2 x3 s3 x4 s4 x5 s5 x6 s6 x7 s7) s7 (fun x8 s8 => (PP T G X).guard v true (o9 x1 s1 x2 s2 x3 s3 x4 s4 x5 s5 x6 s6 x7 s7 x8 s8) s8 (fun x9 s9 => (PP T G X).guard v true (o10 x1 s1 x2 s2 x3 s3 x4 s4 x5 s5 x6 s6 x7 s7 x8 s8 x9 s9) s9 (fun x10 s10 => (PP T G X).guard v true (o11 x1 s1 x2 s2 x3 s3 x4 s4 x5 s5 x6 s6 x7 s7 x8 s8 x9 s9 x10 s10) s10 (fun x11 s11 => (PP T G X).guard v true (o12 x1 s1 x2 s2 x3 s3 x4 s4 x5 s5 x6 s6 x7 s7 x8 s8 x9 s9 x10 s10 x11 s11) s11 (fun x12 s12 => (PP T G X).pick s12 k v x12 (.bool false))))))))))))) = andK v (fun k => o1 (fun x1 s1 => o2 x1 s1 (fun x2 s2 => o3 x1 s1 x2 s2 (fun x3 s3 => o4 x1 s1 x2 s2 x3 s3 (fun x4 s4 => o5 x1 s1 x2 s2 x3 s3 x4 s4 (fun x5 s5 => o6 x1 s1 x2 s2 x3 s3 x4 s4 x5 s5 (fun x6 s6 => o7 x1 s1 x2 s2 x3 s3 x4 s4 x5 s5 x6 s6 (fun x7 s7 => o8 x1 s1 x2 s2 x3 s3 x4 s4 x5 s5 x6 s6 x7 s7 (fun x8 s8 => o9 x1 s1 x2 s2 x3 s3 x4 s4 x5 s5 x6 s6 x7 s7 x8 s8 (fun x9 s9 => o10 x1 s1 x2 s2 x3 s3 x4 s4 x5 s5 x6 s6 x7 s7 x8 s8 x9 s9 (fun x10 s10 => o11 x1 s1 x2 s2 x3 s3 x4 s4 x5 s5 x6 s6 x7 s7 x8 s8 x9 s9 x10 s10 (fun x11 s11 => o12 x1 s1 x2 s2 x3 s3 x4 s4 x5 s5 x6 s6 x7 s7 x8 s8 x9 s9 x10 s10 x11 s11 k)))))))))))) s k := by
  cases v <;> try rfl
  rename_i b; cases b <;> rfl
theorem z_or12 (v : AV) (o1 : K1 → Res) (o2 : AV → St → K1 → Res) (o3 : AV → St → AV → St → K1 → Res) (o4 : AV → St → AV → St → AV → St → K1 → Res) (o5 : AV → St → AV → St → AV → St → AV → St → K1 → Res) (o6 : AV → St → AV → St → AV → St → AV → St → AV → St → K1 → Res) (o7 : AV → St → AV → St → AV → St → AV → St → AV → St → AV → St → K1 → Res) (o8 : AV → St → AV → St → AV → St → AV → St → AV → St → AV → St → AV → St → K1 → Res) (o9 : AV → St → AV → St → AV → St → AV → St → AV → St → AV → St → AV → St → AV → St → K1 → Res) (o10 : AV → St → AV → St → AV → St → AV → St → AV → St → AV → St → AV → St → AV → St → AV → St → K1 → Res) (o11 : AV → St → AV → St → AV → St → AV → St → AV → St → AV → St → AV → St → AV → St → AV → St → AV → St → K1 → Res) (o12 : AV → St → AV → St → AV → St → AV → St → AV → St → AV → St → AV → St → AV → St → AV → St → AV → St → AV → St → K1 → Res) : (PP T G X).guard v false (o1) s (fun x1 s1 => (PP T G X).guard v false (o2 x1 s1) s1 (fun x2 s2 => (PP T G X).guard v false (o3 x1 s1 x2 s2) s2 (fun x3 s3 => (PP T G X).guard v false (o4 x1 s1 x2 s2 x3 s3) s3 (fun x4 s4 => (PP T G X).guard v false (o5 x1 s1 x2 s2 x3 s3 x4 s4) s4 (fun x5 s5 => (PP T G X).guard v false (o6 x1 s1 x2 s2 x3 s3 x4 s4 x5 s5) s5 (fun x6 s6 => (PP T G X).guard v false (o7 x1 s1 x2 s2 x3 s3 x4 s4 x5 s5 x6 s6) s6 (fun x7 s7 => (PP T G X).guard v false (o8 x1 s1 x2 s2 x3 s3 x4 s4 x5 s5 x6 s6 x7 s7) s7 (fun x8 s8 => (PP T G X).guard v false (o9 x1 s1 x2 s2 x3 s3 x4 s4 x5 s5 x6 s6 x7 s7 x8 s8) s8 (fun x9 s9 => (PP T G X).guard v false (o10 x1 s1 x2 s2 x3 s3 x4 s4 x5 s5 x6 s6 x7 s7 x8 s8 x9 s9) s9 (fun x10 s10 => (PP T G X).guard v false (o11 x1 s1 x2 s2 x3 s3 x4 s4 x5 s5 x6 s6 x7 s7 x8 s8 x9 s9 x10 s10) s10 (fun x11 s11 => (PP T G X).guard v false (o12 x1 s1 x2 s2 x3 s3 x4 s4 x5 s5 x6 s6 x7 s7 x8 s8 x9 s9 x10 s10 x11 s11) s11 (fun x12 s12 => (PP T G X).pick s12 k v (.bool true) x12)))))))))))) = orK v (fun k => o1 (fun x1 s1 => o2 x1 s1 (fun x2 s2 => o3 x1 s1 x2 s2 (fun x3 s3 => o4 x1 s1 x2 s2 x3 s3 (fun x4 s4 => o5 x1 s1 x2 s2 x3 s3 x4 s4 (fun x5 s5 => o6 x1 s1 x2 s2 x3 s3 x4 s4 x5 s5 (fun x6 s6 => o7 x1 s1 x2 s2 x3 s3 x4 s4 x5 s5 x6 s6 (fun x7 s7 => o8 x1 s1 x2 s2 x3 s3 x4 s4 x5 s5 x6 s6 x7 s7 (fun x8 s8 => o9 x1 s1 x2 s2 x3 s3 x4 s4 x5 s5 x6 s6 x7 s7 x8 s8 (fun x9 s9 => o10 x1 s1 x2 s2 x3 s3 x4 s4 x5 s5 x6 s6 x7 s7 x8 s8 x9 s9 (fun x10 s10 => o11 x1 s1 x2 s2 x3 s3 x4 s4 x5 s5 x6 s6 x7 s7 x8 s8 x9 s9 x10 s10 (fun x11 s11 => o12 x1 s1 x2 s2 x3 s3 x4 s4 x5 s5 x6 s6 x7 s7 x8 s8 x9 s9 x10 s10 x11 s11 k)))))))))))) s k := by
  cases v <;> try rfl
  rename_i b; cases b <;> rfl
theorem z_boxRo (v : AV) (h : v.isVal = true) : (PP T G X).boxRo v s k = k (.vptr (v.pub s.depth).cells) s := by
  show hBoxRo v s k = _
  unfold hBoxRo
  rw [h]; rfl
theorem z_boxMut (v : AV) (h : v.isVal = true) : (PP T G X).boxMut v s k = k (.ref (.l s.own.length) 0) (s.new (.cells (v.pub s.depth).cells)) := by
  show hBoxMut v s k = _
  unfold hBoxMut
  rw [h]; rfl
section
variable (cs : List AV) (kk : IntKind) (n : Int) (b : Bool) (bs : List Nat) (a : Loc) (o sz : Nat) (es : List AV) (g : Gr) (f : Nat)
theorem z_boxRo_agg : (PP T G X).boxRo (.agg cs) s k = k (.vptr cs) s := rfl
theorem z_boxRo_int : (PP T G X).boxRo (.int kk n) s k = k (.vptr [.int kk n]) s := rfl
theorem z_boxRo_bool : (PP T G X).boxRo (.bool b) s k = k (.vptr [.bool b]) s := rfl
theorem z_boxRo_str : (PP T G X).boxRo (.str bs) s k = k (.vptr [.str bs]) s := rfl
theorem z_boxRo_sl : (PP T G X).boxRo (.sl sz es g) s k = k (.vptr [.sl sz es (g.pub s.depth)]) s := rfl
theorem z_boxRo_fn : (PP T G X).boxRo (.fn f cs) s k = k (.vptr [.fn f cs]) s := rfl
theorem z_boxRo_vptr : (PP T G X).boxRo (.vptr cs) s k = k (.vptr [.vptr cs]) s := rfl
theorem z_boxRo_ref : (PP T G X).boxRo (.ref a o) s k = k (.vptr [.ref (a.pub s.depth) o]) s := rfl
end
theorem z_len_sl (sz : Nat) (es : List AV) (g : Gr) : (PP T G X).len s k false (.sl sz es g) = k (.int .i64 es.length) s := rfl
theorem z_len_msl (a : Loc) (off n c sz : Nat) : (PP T G X).len s k false (.msl a off n c sz) = k (.int .i64 n) s := rfl
theorem z_len_str (bs : List Nat) : (PP T G X).len s k true (.str bs) = k (.int .i64 bs.length) s := rfl
theorem z_load1 (c : AV) (cs : List AV) : (PP T G X).load s k none (.vptr (c :: cs)) = k c s := rfl
theorem z_loadn (n : Nat) (cs : List AV) (h : n ≤ cs.length) : (PP T G X).load s k (some n) (.vptr cs) = k (.agg (cs.take n)) s := by
  show (bif Nat.ble n cs.length then _ else _) = _
  rw [show Nat.ble n cs.length = true from Nat.ble_eq_true_of_le h]; rfl
theorem z_fa (off : Nat) (cs : List AV) : (PP T G X).fieldAddr s k off (.vptr cs) = k (.vptr (cs.drop off)) s := rfl
theorem z_fa_ref (off o : Nat) (a : Loc) : (PP T G X).fieldAddr s k off (.ref a o) = k (.ref a (o + off)) s := rfl
theorem asNat_nat (kk : IntKind) (n : Nat) : asNat (.int kk (n : Int)) = some n := by simp [asNat]
theorem z_idx (sz : Nat) (es : List AV) (g : Gr) (kk : IntKind) (i : Nat) (e : AV) (h : es[i]? = some e) : (PP T G X).idx s k sz (.sl sz es g) (.int kk (i : Int)) = k (.vptr e.cells) s := by
  show idxV (EV G (callω T G X) loopω) s k sz (.sl sz es g) (.int kk (i : Int)) = _
  unfold idxV
  rw [asNat_nat]
  simp only [show Nat.beq sz sz = true from Nat.beq_refl sz, cond_true, h]
  rfl
theorem z_idxI (sz : Nat) (es : List AV) (g : Gr) (kk : IntKind) (i : Int) (e : AV) (h0 : 0 ≤ i) (h : es[i.toNat]? = some e) : (PP T G X).idx s k sz (.sl sz es g) (.int kk i) = k (.vptr e.cells) s := by
  have := z_idx (T := T) (G := G) (X := X) (s := s) (k := k) sz es g kk i.toNat e h
  rwa [Int.toNat_of_nonneg h0] at this
theorem z_call {f : Nat} {args : List AV} {v : AV} {s' : St} (h : callω T G X f args s = .ok v s') (hd : s'.depth = s.depth) : (PP T G X).call s k f args = k v s' := by
  show callV _ _ _ _ _ _ = _
  unfold callV
  show (match callω T G X f args s with | .ok v s' => _ | .panic v s' => _ | .fail => _) = _
  rw [h]
  simp only [hd, Nat.beq_refl, cond_true]
theorem z_call0 {f : Nat} {args : List AV} {v : AV} (h : callω T G X f args s = .ok v s) : (PP T G X).call s k f args = k v s := z_call h rfl
theorem z_callF {f : Nat} {caps args : List AV} : (PP T G X).callF s k (.fn f caps) args = (PP T G X).call s k f (args ++ caps) := rfl
theorem z_callP {f : Nat} {args : List AV} {v : AV} {s' : St} (ha : AV.reflessL args = true) (h : callω T G X f args { own := [], up := [], ro := [] } = .ok v s') (hv : v.refless = true) : (PP T G X).callP s k f args = k v s := by
  show callPV _ _ _ _ _ = _
  unfold callPV
  rw [ha]
  simp only [cond_true]
  show (match callω T G X f args _ with | .ok v _ => _ | _ => _) = _
  rw [h]
  simp only [hv, cond_true]
theorem z_extract (i : Nat) (vs : List AV) (v : AV) (h : vs[i]? = some v) : (PP T G X).extract s k i (.tup vs) = k v s := by
  show oV _ _ _ _ = _
  rw [h]; rfl

/-! Numbers. -/
section
variable (kk : IntKind) (a b : Int)
theorem b_add : binV .add (.int kk a) (.int kk b) = some (.int kk (kk.wrap (a + b))) := by simp [binV, intBin]
theorem b_sub : binV .sub (.int kk a) (.int kk b) = some (.int kk (kk.wrap (a - b))) := by simp [binV, intBin]
theorem b_mul : binV .mul (.int kk a) (.int kk b) = some (.int kk (kk.wrap (a * b))) := by simp [binV, intBin]
theorem b_quo (h : b ≠ 0) : binV .quo (.int kk a) (.int kk b) = some (.int kk (kk.wrap (a.tdiv b))) := by simp [binV, intBin, h]
theorem b_rem (h : b ≠ 0) : binV .rem (.int kk a) (.int kk b) = some (.int kk (a.tmod b)) := by simp [binV, intBin, h]
theorem b_eql : binV .eql (.int kk a) (.int kk b) = some (.bool (decide (a = b))) := by
  simp only [binV, intBin, ↓reduceIte]; congr 2
theorem b_neq : binV .neq (.int kk a) (.int kk b) = some (.bool (decide (¬ a = b))) := by
  simp only [binV, intBin, ↓reduceIte, bne]; congr 2; by_cases h : a = b <;> simp [h]
theorem b_lss : binV .lss (.int kk a) (.int kk b) = some (.bool (decide (a < b))) := by simp [binV, intBin]
theorem b_leq : binV .leq (.int kk a) (.int kk b) = some (.bool (decide (a ≤ b))) := by simp [binV, intBin]
theorem b_gtr : binV .gtr (.int kk a) (.int kk b) = some (.bool (decide (b < a))) := by simp [binV, intBin]
theorem b_geq : binV .geq (.int kk a) (.int kk b) = some (.bool (decide (b ≤ a))) := by simp [binV, intBin]
end
section
variable (kk : IntKind) (a b : Int)
theorem z_add : (PP T G X).val s k (binV .add (.int kk a) (.int kk b)) = k (.int kk (kk.wrap (a + b))) s := by rw [b_add]; rfl
theorem z_sub : (PP T G X).val s k (binV .sub (.int kk a) (.int kk b)) = k (.int kk (kk.wrap (a - b))) s := by rw [b_sub]; rfl
theorem z_mul : (PP T G X).val s k (binV .mul (.int kk a) (.int kk b)) = k (.int kk (kk.wrap (a * b))) s := by rw [b_mul]; rfl
theorem z_quo (h : b ≠ 0) : (PP T G X).val s k (binV .quo (.int kk a) (.int kk b)) = k (.int kk (kk.wrap (a.tdiv b))) s := by rw [b_quo _ _ _ h]; rfl
theorem z_rem (h : b ≠ 0) : (PP T G X).val s k (binV .rem (.int kk a) (.int kk b)) = k (.int kk (a.tmod b)) s := by rw [b_rem _ _ _ h]; rfl
theorem z_eql : (PP T G X).val s k (binV .eql (.int kk a) (.int kk b)) = k (.bool (decide (a = b))) s := by rw [b_eql]; rfl
theorem z_neq : (PP T G X).val s k (binV .neq (.int kk a) (.int kk b)) = k (.bool (decide (¬ a = b))) s := by rw [b_neq]; rfl
theorem z_lss : (PP T G X).val s k (binV .lss (.int kk a) (.int kk b)) = k (.bool (decide (a < b))) s := by rw [b_lss]; rfl
theorem z_leq : (PP T G X).val s k (binV .leq (.int kk a) (.int kk b)) = k (.bool (decide (a ≤ b))) s := by rw [b_leq]; rfl
theorem z_gtr : (PP T G X).val s k (binV .gtr (.int kk a) (.int kk b)) = k (.bool (decide (b < a))) s := by rw [b_gtr]; rfl
theorem z_geq : (PP T G X).val s k (binV .geq (.int kk a) (.int kk b)) = k (.bool (decide (b ≤ a))) s := by rw [b_geq]; rfl
theorem z_not (t : Bool) : (PP T G X).val s k (unV .not (.bool t)) = k (.bool (!t)) s := rfl
theorem z_neg : (PP T G X).val s k (unV .neg (.int kk a)) = k (.int kk (kk.wrap (0 - a))) s := rfl
end
theorem u_not (t : Bool) : unV .not (.bool t) = some (.bool (!t)) := rfl
theorem wrap_in (a : Int) (h1 : -9223372036854775808 ≤ a) (h2 : a ≤ 9223372036854775807) : IntKind.wrap .i64 a = a := IntWalk.i64_in a ⟨h1, h2⟩
theorem wrap_succ (n : Nat) (h : n < 9223372036854775807) : IntKind.wrap .i64 ((n : Int) + 1) = ((n + 1 : Nat) : Int) := by
  rw [wrap_in _ (by omega) (by omega)]; rfl

/-! Results. -/
/-- A value that a caller may have as it is. -/
def AV.plain : AV → Bool
  | .int .. | .bool _ | .str _ | .nilp | .nilf | .nili | .nilmap => true
  | _ => false
theorem freeze_plain {s : St} {v : AV} (h : v.plain = true) : freeze s v = some v := by
  cases v <;> simp [AV.plain] at h <;> rfl
theorem z_fin1 {own : List AObj} {u : List AObj} {us ro : List (List AObj)} (v w : AV) (h : freeze { own, up := u :: us, ro } v = some w) : (PP T G X).fin false [some v] { own, up := u :: us, ro } = .ok w { own := u, up := us, ro } := by
  show hFin false [some v] { own, up := u :: us, ro } = _
  unfold hFin
  simp only [mapO, Option.bind_some, Option.map_some, cond_false, h, tupV]
theorem z_fin1p {own : List AObj} {u : List AObj} {us ro : List (List AObj)} (v : AV) (h : v.plain = true) : (PP T G X).fin false [some v] { own, up := u :: us, ro } = .ok v { own := u, up := us, ro } := z_fin1 v v (freeze_plain h)
theorem z_fin2 {own : List AObj} {u : List AObj} {us ro : List (List AObj)} (v1 v2 w1 w2 : AV) (h1 : freeze { own, up := u :: us, ro } v1 = some w1) (h2 : freeze { own, up := u :: us, ro } v2 = some w2) : (PP T G X).fin false [some v1, some v2] { own, up := u :: us, ro } = .ok (.tup [w1, w2]) { own := u, up := us, ro } := by
  show hFin false [some v1, some v2] { own, up := u :: us, ro } = _
  unfold hFin
  simp only [mapO, Option.bind_some, Option.map_some, cond_false, h1, h2, tupV]
section
variable {own : List AObj} {u : List AObj} {us ro : List (List AObj)}
theorem z_fin_int (kk : IntKind) (n : Int) : (PP T G X).fin false [some (.int kk n)] { own, up := u :: us, ro } = .ok (.int kk n) { own := u, up := us, ro } := rfl
theorem z_fin_bool (b : Bool) : (PP T G X).fin false [some (.bool b)] { own, up := u :: us, ro } = .ok (.bool b) { own := u, up := us, ro } := rfl
theorem z_fin_str (b : List Nat) : (PP T G X).fin false [some (.str b)] { own, up := u :: us, ro } = .ok (.str b) { own := u, up := us, ro } := rfl
end
theorem z_ent_int (kk : IntKind) (n : Int) : (PP T G X).fin false [some (.int kk n)] s.enter = .ok (.int kk n) s := rfl
theorem z_ent_bool (b : Bool) : (PP T G X).fin false [some (.bool b)] s.enter = .ok (.bool b) s := rfl
theorem z_ent_str (b : List Nat) : (PP T G X).fin false [some (.str b)] s.enter = .ok (.str b) s := rfl
/-! A variable that the running frame has just made. -/
theorem get_new_l (s : St) (o : AObj) : (s.new o).get (.l s.own.length) = some o := by simp [St.get, St.new]
theorem set_new_l (s : St) (o o' : AObj) : (s.new o).set (.l s.own.length) o' = some (s.new o') := by simp [St.set, St.new]
theorem splice_all {α : Type} : ∀ (vs cs : List α), vs.length = cs.length → splice cs 0 vs = vs := by
  intro vs cs h
  apply List.ext_getElem?
  intro j
  rw [splice_get _ _ _ (by omega)]
  split
  · simp
  · rw [List.getElem?_eq_none (by omega), List.getElem?_eq_none (by omega)]
theorem z_stn (n : Nat) (vs cs : List AV) (h1 : vs.length = n) (h2 : cs.length = n) (h3 : vs.all AV.isCell = true) : (PP T G X).store (s.new (.cells cs)) k n (.ref (.l s.own.length) 0) (.agg vs) = k .dead (s.new (.cells vs)) := by
  rw [zz_store]
  unfold storeOp
  simp only [AV.isVal, AV.cells, h1, Nat.beq_refl, Bool.and_self, cond_true]
  unfold storeV
  simp only [get_new_l]
  have e : splice cs 0 vs = vs := splice_all _ _ (by omega)
  have e1 : Nat.ble (0 + vs.length) cs.length = true := Nat.ble_eq_true_of_le (by omega)
  have e2 : (s.new (.cells cs)).takes (.l s.own.length) vs = true := by simp [St.takes, St.isOwn]
  rw [e1, e2, h3]
  simp only [Bool.and_self, cond_true, e]
  show (match (s.new (.cells cs)).set (.l s.own.length) (.cells vs) with | some s => k .dead s | none => .fail) = _
  rw [set_new_l]
theorem z_ldnn (n : Nat) (cs : List AV) (h : n ≤ cs.length) : (PP T G X).load (s.new (.cells cs)) k (some n) (.ref (.l s.own.length) 0) = k (.agg (cs.take n)) (s.new (.cells cs)) := by
  rw [zz_load]
  simp only [loadOp, get_new_l, List.drop_zero, loadV]
  rw [show Nat.ble n cs.length = true from Nat.ble_eq_true_of_le h]
  rfl
theorem z_ldn0 (c0 : AV) (cs : List AV) : (PP T G X).load (s.new (.cells (c0 :: cs))) k none (.ref (.l s.own.length) 0) = k c0 (s.new (.cells (c0 :: cs))) := by
  rw [zz_load]
  simp only [loadOp, get_new_l]
  rfl
theorem z_ldn1 (c0 c1 : AV) (cs : List AV) : (PP T G X).load (s.new (.cells (c0 :: c1 :: cs))) k none (.ref (.l s.own.length) 1) = k c1 (s.new (.cells (c0 :: c1 :: cs))) := by
  rw [zz_load]
  simp only [loadOp, get_new_l]
  rfl
theorem z_ldn2 (c0 c1 c2 : AV) (cs : List AV) : (PP T G X).load (s.new (.cells (c0 :: c1 :: c2 :: cs))) k none (.ref (.l s.own.length) 2) = k c2 (s.new (.cells (c0 :: c1 :: c2 :: cs))) := by
  rw [zz_load]
  simp only [loadOp, get_new_l]
  rfl
theorem z_ldn3 (c0 c1 c2 c3 : AV) (cs : List AV) : (PP T G X).load (s.new (.cells (c0 :: c1 :: c2 :: c3 :: cs))) k none (.ref (.l s.own.length) 3) = k c3 (s.new (.cells (c0 :: c1 :: c2 :: c3 :: cs))) := by
  rw [zz_load]
  simp only [loadOp, get_new_l]
  rfl
theorem z_ldn4 (c0 c1 c2 c3 c4 : AV) (cs : List AV) : (PP T G X).load (s.new (.cells (c0 :: c1 :: c2 :: c3 :: c4 :: cs))) k none (.ref (.l s.own.length) 4) = k c4 (s.new (.cells (c0 :: c1 :: c2 :: c3 :: c4 :: cs))) := by
  rw [zz_load]
  simp only [loadOp, get_new_l]
  rfl
theorem z_ldn5 (c0 c1 c2 c3 c4 c5 : AV) (cs : List AV) : (PP T G X).load (s.new (.cells (c0 :: c1 :: c2 :: c3 :: c4 :: c5 :: cs))) k none (.ref (.l s.own.length) 5) = k c5 (s.new (.cells (c0 :: c1 :: c2 :: c3 :: c4 :: c5 :: cs))) := by
  rw [zz_load]
  simp only [loadOp, get_new_l]
  rfl
theorem z_ldn6 (c0 c1 c2 c3 c4 c5 c6 : AV) (cs : List AV) : (PP T G X).load (s.new (.cells (c0 :: c1 :: c2 :: c3 :: c4 :: c5 :: c6 :: cs))) k none (.ref (.l s.own.length) 6) = k c6 (s.new (.cells (c0 :: c1 :: c2 :: c3 :: c4 :: c5 :: c6 :: cs))) := by
  rw [zz_load]
  simp only [loadOp, get_new_l]
  rfl
theorem z_ldn7 (c0 c1 c2 c3 c4 c5 c6 c7 : AV) (cs : List AV) : (PP T G X).load (s.new (.cells (c0 :: c1 :: c2 :: c3 :: c4 :: c5 :: c6 :: c7 :: cs))) k none (.ref (.l s.own.length) 7) = k c7 (s.new (.cells (c0 :: c1 :: c2 :: c3 :: c4 :: c5 :: c6 :: c7 :: cs))) := by
  rw [zz_load]
  simp only [loadOp, get_new_l]
  rfl
theorem z_ldn8 (c0 c1 c2 c3 c4 c5 c6 c7 c8 : AV) (cs : List AV) : (PP T G X).load (s.new (.cells (c0 :: c1 :: c2 :: c3 :: c4 :: c5 :: c6 :: c7 :: c8 :: cs))) k none (.ref (.l s.own.length) 8) = k c8 (s.new (.cells (c0 :: c1 :: c2 :: c3 :: c4 :: c5 :: c6 :: c7 :: c8 :: cs))) := by
  rw [zz_load]
  simp only [loadOp, get_new_l]
  rfl
/-- A state of a call's frame. -/
structure Child (s S : St) : Prop where
  up : S.up = s.own :: s.up
  ro : S.ro = s.ro
theorem Child.enter (s : St) : Child s s.enter := ⟨rfl, rfl⟩
theorem Child.new {s S : St} (h : Child s S) (o : AObj) : Child s (S.new o) := ⟨h.up, h.ro⟩
theorem z_finC1 {s S : St} (h : Child s S) (v w : AV) (hw : freeze S v = some w) : (PP T G X).fin false [some v] S = .ok w s := by
  obtain ⟨h1, h2⟩ := h
  show hFin false [some v] S = _
  unfold hFin
  simp only [mapO, Option.bind_some, Option.map_some, cond_false, hw, tupV, h1, h2]
theorem z_finC2 {s S : St} (h : Child s S) (v1 v2 w1 w2 : AV) (e1 : freeze S v1 = some w1) (e2 : freeze S v2 = some w2) : (PP T G X).fin false [some v1, some v2] S = .ok (.tup [w1, w2]) s := by
  obtain ⟨h1, h2⟩ := h
  show hFin false [some v1, some v2] S = _
  unfold hFin
  simp only [mapO, Option.bind_some, Option.map_some, cond_false, e1, e2, tupV, h1, h2]
theorem z_finC_int {s S : St} (h : Child s S) (kk : IntKind) (n : Int) : (PP T G X).fin false [some (.int kk n)] S = .ok (.int kk n) s := z_finC1 h _ _ rfl
theorem z_finC_bool {s S : St} (h : Child s S) (b : Bool) : (PP T G X).fin false [some (.bool b)] S = .ok (.bool b) s := z_finC1 h _ _ rfl
theorem pub_agg (d : Nat) (cs : List AV) : AV.pub d (.agg cs) = .agg cs := rfl
theorem pub_int (d : Nat) (kk : IntKind) (n : Int) : AV.pub d (.int kk n) = .int kk n := rfl
theorem pub_bool (d : Nat) (b : Bool) : AV.pub d (.bool b) = .bool b := rfl
theorem pub_str (d : Nat) (b : List Nat) : AV.pub d (.str b) = .str b := rfl
theorem pub_fn (d f : Nat) (cs : List AV) : AV.pub d (.fn f cs) = .fn f cs := rfl
theorem pub_vptr (d : Nat) (cs : List AV) : AV.pub d (.vptr cs) = .vptr cs := rfl
theorem pub_nilp (d : Nat) : AV.pub d .nilp = .nilp := rfl
theorem isCell_int (kk : IntKind) (n : Int) : AV.isCell (.int kk n) = true := rfl
theorem isCell_bool (b : Bool) : AV.isCell (.bool b) = true := rfl
theorem isCell_str (b : List Nat) : AV.isCell (.str b) = true := rfl
theorem isCell_sl (sz : Nat) (es : List AV) (g : Gr) : AV.isCell (.sl sz es g) = true := rfl
theorem ite_okb (p : Prop) [Decidable p] (a b : Bool) (s : St) : (if p then Res.ok (.bool a) s else Res.ok (.bool b) s) = .ok (.bool (if p then a else b)) s := by split <;> rfl
theorem ite_and' (p q : Prop) [Decidable p] [Decidable q] : (if p then decide q else false) = decide (p ∧ q) := by by_cases h : p <;> simp [h]
theorem not_dec (p : Prop) [Decidable p] : ((!decide p) = true) = ¬ p := by simp
theorem pick_tt (a b : AV) : (if True then a else b) = a := rfl
end Go.Ab
