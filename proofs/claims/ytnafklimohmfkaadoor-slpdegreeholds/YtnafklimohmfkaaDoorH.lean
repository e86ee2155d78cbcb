/- Words in which a function's code is printed without its frame. -/
import Derived.Test.YtnafklimohmfkaaDoorCall
import Derived.IntWalk
section
/- Words in which a function's code is printed without its frame. -/
namespace Go.Ab

def hLet (v : AV) (s : St) (k : AV → St → Res) : Res := k v s
def hBoxRo (x : AV) (s : St) (k : AV → St → Res) : Res := bif x.isVal then k (.vptr (x.pub s.depth).cells) s else .fail
def hBoxMut (x : AV) (s : St) (k : AV → St → Res) : Res := bif x.isVal then k (.ref (.l s.own.length) 0) (s.new (.cells (x.pub s.depth).cells)) else .fail
def hFill (d : Nat) : List AV → List (Nat × Nat × AV) → Option (List AV)
  | cs, [] => some cs
  | cs, (off, sz, x) :: ps =>
    let v := x.pub d
    bif v.isVal && Nat.beq v.cells.length sz && Nat.ble (off + sz) cs.length then hFill d (splice cs off v.cells) ps else none
def hBuild (zero : List AV) (ps : List (Nat × Nat × AV)) (s : St) (k : AV → St → Res) : Res :=
  match (hFill s.depth zero ps).map .agg with
  | some v => k v s
  | none => .fail
def hBd (o : Option AV) (d : Nat) : Option Nat :=
  match o with
  | none => some d
  | some x => asNat x
def hSub (x : AV) (lo hi : Option AV) (s : St) (k : AV → St → Res) : Res :=
  match x with
  | .str bs =>
    match hBd lo 0, hBd hi bs.length with
    | some l, some h => bif Nat.ble l h && Nat.ble h bs.length then k (.str ((bs.drop l).take (h - l))) s else .fail
    | _, _ => .fail
  | _ => .fail
def hSlice (z : Nat) (x : AV) (lo hi mx : Option AV) (s : St) (k : AV → St → Res) : Res :=
  match x with
  | .sl sz es g =>
    match hBd lo 0, hBd hi es.length with
    | some l, some h =>
      match mx with
      | none =>
        bif Nat.beq z sz && Nat.ble l h && Nat.ble h es.length && partOK g l h es then
          k (.sl sz ((es.drop l).take (h - l)) (match g with
            | .nil => .nil
            | .exact => if h = es.length then .exact else .any
            | .buf a => if l = 0 ∧ h = es.length then .buf a else .any
            | .any => .any)) s
        else .fail
      | some x =>
        match asNat x, g with
        | _, .nil => .fail
        | some m, _ => bif Nat.beq z sz && Nat.ble l h && Nat.ble h m && Nat.ble m es.length && partAny g es then k (.sl sz ((es.drop l).take (h - l)) (if h = m then .exact else .any)) s else .fail
        | _, _ => .fail
    | _, _ => .fail
  | .msl a off len cap sz =>
    match hBd lo 0, hBd hi len, hBd mx cap with
    | some l, some h, some m =>
      bif Nat.beq z sz && Nat.ble l h && Nat.ble h m && Nat.ble m cap then k (.msl a (if m = l then off else off + l * sz) (h - l) (m - l) sz) s else .fail
    | _, _, _ => .fail
  | _ => .fail
def hSliceA (z n : Nat) (x : AV) (lo hi mx : Option AV) (s : St) (k : AV → St → Res) : Res :=
  match x with
  | .ref a off =>
    match hBd lo 0, hBd hi n, hBd mx n with
    | some l, some h, some m => bif Nat.ble l h && Nat.ble h m && Nat.ble m n then k (.msl a (if m = l then off else off + l * z) (h - l) (m - l) z) s else .fail
    | _, _, _ => .fail
  | _ => .fail
def hAt (v : AV) : Option Loc :=
  match v with
  | .ref a _ => some a
  | .map a => some a
  | _ => none
def hGuard (v : AV) (want : Bool) (op : (AV → St → Res) → Res) (s : St) (k : AV → St → Res) : Res :=
  match v with
  | .bool b => bif b == want then op k else k (.tup []) s
  | .tup _ => k (.tup []) s
  | _ => .fail
def hCond (v : AV) (a b : Res) : Res :=
  match v with
  | .bool t => bif t then a else b
  | _ => .fail
def hCell (s : St) (v : AV) (n : Option Nat) : Option AV :=
  match v with
  | .ref a off =>
    match s.get a, n with
    | some (.cells cs), none => cs[off]?
    | some (.cells cs), some n => if Nat.ble (off + n) cs.length then some (.agg ((cs.drop off).take n)) else none
    | _, _ => none
  | _ => none
def hFin (keep : Bool) (rs : List (Option AV)) (s : St) : Res :=
  match mapO (fun x => x) rs with
  | some vs =>
    bif keep then .ok (tupV (vs.map (AV.pub s.depth))) s
    else
      match mapO (freeze s) vs with
      | some vs =>
        match s.up with
        | own :: up => .ok (tupV vs) { own, up, ro := s.ro }
        | [] => .fail
      | none => .fail
  | none => .fail
def St.enter (s : St) : St := { own := [], up := s.own :: s.up, ro := s.ro }
end Go.Ab
end
section
/- The evaluator over words that are not looked into: so a function's code is printed without its frame. -/
namespace Go.Ab
set_option linter.unusedVariables false

abbrev K1 := AV → St → Res
/-- The words of an operation. -/
structure Zenv where
  glob : Nat → AV
  loop : SS → Mk → SS
  mask : Mk → ACode → SS
  fin : Bool → List (Option AV) → St → Res
  ret : AV → St → K1 → Res
  pick : St → K1 → AV → AV → AV → Res
  boxRo : AV → St → K1 → Res
  boxMut : AV → St → K1 → Res
  build : List AV → List (Nat × Nat × AV) → St → K1 → Res
  buildSlice : St → K1 → Nat → List AV → Res
  moveF : St → K1 → AV → Res
  load : St → K1 → Option Nat → AV → Res
  store : St → K1 → Nat → AV → AV → Res
  nilCheck : St → K1 → AV → Res
  val : St → K1 → Option AV → Res
  convInt : St → K1 → IntKind → AV → Res
  convId : St → K1 → AV → Res
  bytesToStr : St → K1 → AV → Res
  strToBytes : St → K1 → AV → Res
  make : St → K1 → List AV → Nat → AV → AV → Res
  sub : AV → Option AV → Option AV → St → K1 → Res
  slice : Nat → AV → Option AV → Option AV → Option AV → St → K1 → Res
  fieldAddr : St → K1 → Nat → AV → Res
  field : St → K1 → Nat → Option Nat → AV → Res
  idx : St → K1 → Nat → AV → AV → Res
  idxArr : St → K1 → Nat → Nat → AV → AV → Res
  idxStr : St → K1 → AV → AV → Res
  idxAgg : St → K1 → Nat → Nat → Option Nat → AV → AV → Res
  extract : St → K1 → Nat → AV → Res
  call : St → K1 → Nat → List AV → Res
  callF : St → K1 → AV → List AV → Res
  callP : St → K1 → Nat → List AV → Res
  callFP : St → K1 → AV → List AV → Res
  callC : St → K1 → List (Option Nat × AV) → Nat → List AV → Res
  callFC : St → K1 → List (Option Nat × AV) → AV → List AV → Res
  len : St → K1 → Bool → AV → Res
  append : St → K1 → Nat → Nat → Option Loc → AV → AV → Res
  appendS : St → K1 → Nat → Nat → Option Loc → AV → AV → Res
  appendR : St → K1 → Nat → Nat → Option Loc → AV → AV → Res
  buildSliceR : St → K1 → Nat → List AV → Res
  sliceA : Nat → Nat → AV → Option AV → Option AV → Option AV → St → K1 → Res
  copy : St → K1 → Nat → AV → AV → Res
  fold : St → K1 → (AV → AV → Option AV) → List AV → Res
  makeMap : St → K1 → Option Loc → Res
  mapPut : St → K1 → KD → AV → AV → AV → Res
  lookup : St → K1 → KD → AV → Bool → AV → AV → Res
  guard : AV → Bool → (K1 → Res) → St → K1 → Res
  cond : AV → Res → Res → Res

def optOpd (G : Nat → AV) (fr : Nat → AV) : Option AOpd → Option AV
  | none => none
  | some x => some (opnd G fr x)
def atOpd (G : Nat → AV) (fr : Nat → AV) : Option AOpd → Option Loc
  | none => some (.l 0)
  | some x => hAt (opnd G fr x)
def partsOf (G : Nat → AV) (fr : Nat → AV) : List (Nat × Nat × AOpd) → List (Nat × Nat × AV)
  | [] => []
  | (off, sz, x) :: ps => (off, sz, opnd G fr x) :: partsOf G fr ps

def stepP (P : Zenv) (fr : Nat → AV) (s : St) (k : K1) (op : AOp) : Res :=
  match op with
  | .move x => k (opnd P.glob fr x) s
  | .pick c a b => P.pick s k (opnd P.glob fr c) (opnd P.glob fr a) (opnd P.glob fr b)
  | .alloc zero => P.ret (.ref (.l s.own.length) 0) (s.new (.cells zero)) k
  | .boxRo x => P.boxRo (opnd P.glob fr x) s k
  | .boxMut x => P.boxMut (opnd P.glob fr x) s k
  | .build zero parts => P.build zero (partsOf P.glob fr parts) s k
  | .buildSlice sz parts => P.buildSlice s k sz (parts.map (opnd P.glob fr))
  | .moveF x => P.moveF s k (opnd P.glob fr x)
  | .load n a => P.load s k n (opnd P.glob fr a)
  | .store n a v => P.store s k n (opnd P.glob fr a) ((opnd P.glob fr v).pub s.depth)
  | .nilCheck x => P.nilCheck s k (opnd P.glob fr x)
  | .bin op x y => P.val s k (binV op (opnd P.glob fr x) (opnd P.glob fr y))
  | .eq neg e x y => P.val s k ((eqV e (opnd P.glob fr x) (opnd P.glob fr y)).map fun b => .bool (bif neg then !b else b))
  | .un op x => P.val s k (unV op (opnd P.glob fr x))
  | .convInt d x => P.convInt s k d (opnd P.glob fr x)
  | .convId x => P.convId s k (opnd P.glob fr x)
  | .bytesToStr x => P.bytesToStr s k (opnd P.glob fr x)
  | .strToBytes x => P.strToBytes s k (opnd P.glob fr x)
  | .mkIface t x => P.ret (.iface t ((opnd P.glob fr x).pub s.depth)) s k
  | .mkFunc f caps => P.ret (.fn f (caps.map fun x => (opnd P.glob fr x).pub s.depth)) s k
  | .makeSlice zero bytes l c => P.make s k zero bytes (opnd P.glob fr l) (opnd P.glob fr c)
  | .subStr x lo hi => P.sub (opnd P.glob fr x) (optOpd P.glob fr lo) (optOpd P.glob fr hi) s k
  | .slice z x lo hi mx => P.slice z (opnd P.glob fr x) (optOpd P.glob fr lo) (optOpd P.glob fr hi) (optOpd P.glob fr mx) s k
  | .fieldAddr off a => P.fieldAddr s k off (opnd P.glob fr a)
  | .field off n x => P.field s k off n (opnd P.glob fr x)
  | .idxSl sz x i => P.idx s k sz (opnd P.glob fr x) (opnd P.glob fr i)
  | .idxArr sz len x i => P.idxArr s k sz len (opnd P.glob fr x) (opnd P.glob fr i)
  | .idxStr x i => P.idxStr s k (opnd P.glob fr x) (opnd P.glob fr i)
  | .idxAgg sz len n x i => P.idxAgg s k sz len n (opnd P.glob fr x) (opnd P.glob fr i)
  | .extract x i => P.extract s k i (opnd P.glob fr x)
  | .call f args => P.call s k f (args.map fun x => (opnd P.glob fr x).pub s.depth)
  | .callV f args => P.callF s k (opnd P.glob fr f) (args.map fun x => (opnd P.glob fr x).pub s.depth)
  | .callP f args => P.callP s k f (args.map fun x => (opnd P.glob fr x).pub s.depth)
  | .callVP f args => P.callFP s k (opnd P.glob fr f) (args.map fun x => (opnd P.glob fr x).pub s.depth)
  | .callC ks f args => P.callC s k (ks.map fun x => (x.1, opnd P.glob fr x.2)) f (args.map fun x => (opnd P.glob fr x).pub s.depth)
  | .callVC ks f args => P.callFC s k (ks.map fun x => (x.1, opnd P.glob fr x.2)) (opnd P.glob fr f) (args.map fun x => (opnd P.glob fr x).pub s.depth)
  | .len b x => P.len s k b (opnd P.glob fr x)
  | .append q bytes b x y => P.append s k q bytes (atOpd P.glob fr b) (opnd P.glob fr x) (opnd P.glob fr y)
  | .appendR q bytes b x y => P.appendR s k q bytes (atOpd P.glob fr b) (opnd P.glob fr x) (opnd P.glob fr y)
  | .buildSliceR sz parts => P.buildSliceR s k sz (parts.map fun x => (opnd P.glob fr x).pub s.depth)
  | .appendS q bytes b x y => P.appendS s k q bytes (atOpd P.glob fr b) (opnd P.glob fr x) (opnd P.glob fr y)
  | .sliceA z n x lo hi mx => P.sliceA z n (opnd P.glob fr x) (optOpd P.glob fr lo) (optOpd P.glob fr hi) (optOpd P.glob fr mx) s k
  | .copy q d x => P.copy s k q (opnd P.glob fr d) (opnd P.glob fr x)
  | .min xs => P.fold s k min2 (xs.map fun x => (opnd P.glob fr x).pub s.depth)
  | .max xs => P.fold s k max2 (xs.map fun x => (opnd P.glob fr x).pub s.depth)
  | .makeMap b => P.makeMap s k (atOpd P.glob fr b)
  | .mapPut kd m x v => P.mapPut s k kd (opnd P.glob fr m) ((opnd P.glob fr x).pub s.depth) ((opnd P.glob fr v).pub s.depth)
  | .lookup kd zero ok m x => P.lookup s k kd zero ok (opnd P.glob fr m) ((opnd P.glob fr x).pub s.depth)
  | .nilI neg x => P.val s k (nilIV neg (opnd P.glob fr x))
  | .no => .fail

def runOpsP (P : Zenv) : List AOper → Tr → St → (Tr → St → Res) → Res
  | [], fr, s, fin => fin fr s
  | o :: os, fr, s, fin =>
    match o.guard with
    | none => stepP P fr.get s (fun v s => putK fr o.dst v fun fr => runOpsP P os fr s fin) o.op
    | some (t, want) => P.guard (fr.get t) want (fun k => stepP P fr.get s k o.op) s (fun v s => putK fr o.dst v fun fr => runOpsP P os fr s fin)
def execP (P : Zenv) : ACode → SS
  | .skip, fr, s, k => k .norm fr s
  | .region none ops, fr, s, k => runOpsP P ops fr s (fun fr s => k .norm fr s)
  | .region (some []) ops, fr, s, k => runOpsP P ops fr s (fun fr s => k .norm fr s)
  | .region (some (_ :: _)) _, _, _, _ => .fail
  | .seq a b, fr, s, k => execP P a fr s (seqK (execP P b) k)
  | .mask m a, fr, s, k => P.mask m a (Tr.mask m fr) s k
  | .cond c a b, fr, s, k => P.cond (opnd P.glob fr.get c) (execP P a fr s k) (execP P b fr s k)
  | .block id c, fr, s, k => execP P c fr s (blockK id k)
  | .loop keep c, fr, s, k => P.loop (execP P c) keep (Tr.mask keep fr) s k
  | .exit id, fr, s, k => k (.exit id) fr s
  | .scope c, fr, s, k => execP P c fr s k
  | .ret, fr, s, k => k .ret fr s
def resP (fr : Tr) (s : St) : ARes → Option AV
  | .t n => some (fr.get n)
  | .cell a n => hCell s (fr.get a) n
def finP (P : Zenv) (fn : AFn) : KK := fun x fr s =>
  match x with
  | .norm => P.fin fn.keep (fn.results.map (resP fr s)) s
  | .ret => P.fin fn.keep (fn.results.map (resP fr s)) s
  | _ => .fail

/-- No region asks for what lies apart. -/
def okChk : ACode → Bool
  | .region (some (_ :: _)) _ => false
  | .seq a b | .cond _ a b => okChk a && okChk b
  | .mask _ a | .block _ a | .loop _ a | .scope a => okChk a
  | _ => true

/-- The words themselves. -/
noncomputable def realP (G : Nat → AV) (c : Nat → List AV → St → Res) : Zenv where
  glob := G
  loop := loopω
  mask := fun _ a fr s k => exec (EV G c loopω) a fr s k
  fin := hFin
  ret := fun v s k => k v s
  pick := fun s k c' a b => pickV (EV G c loopω) s k c' a b
  boxRo := hBoxRo
  boxMut := hBoxMut
  build := hBuild
  buildSlice := fun s k sz es => buildSliceV (EV G c loopω) s k sz es
  moveF := fun s k v => moveFV (EV G c loopω) s k v
  load := fun s k n v => loadOp (EV G c loopω) s k n v
  store := fun s k n a v => storeOp (EV G c loopω) s k n a v
  nilCheck := fun s k v => nilCheckV (EV G c loopω) s k v
  val := fun s k v => oV (EV G c loopω) s k v
  convInt := fun s k d v => convIntV (EV G c loopω) s k d v
  convId := fun s k v => convIdV s k v
  bytesToStr := fun s k v => bytesToStrV (EV G c loopω) s k v
  strToBytes := fun s k v => strToBytesV (EV G c loopω) s k v
  make := fun s k z b l c' => makeV (EV G c loopω) s k z b l c'
  sub := hSub
  slice := hSlice
  fieldAddr := fun s k off v => fieldAddrV (EV G c loopω) s k off v
  field := fun s k off n v => fieldV (EV G c loopω) s k off n v
  idx := fun s k sz x i => idxV (EV G c loopω) s k sz x i
  idxArr := fun s k sz len x i => idxArrV (EV G c loopω) s k sz len x i
  idxStr := fun s k x i => idxStrV (EV G c loopω) s k x i
  idxAgg := fun s k sz len n x i => idxAggV (EV G c loopω) s k sz len n x i
  extract := fun s k i v => extractV (EV G c loopω) s k i v
  call := fun s k f args => callV (EV G c loopω) s k (fun _ _ => .fail) f args
  callF := fun s k f args => callFV (EV G c loopω) s k (fun _ _ => .fail) f args
  callP := fun s k f args => callPV (EV G c loopω) s k f args
  callFP := fun s k f args => callFPV (EV G c loopω) s k f args
  callC := fun s k ks f args => callCV (EV G c loopω) s k (fun _ _ => .fail) ks f args
  callFC := fun s k ks f args => callFCV (EV G c loopω) s k (fun _ _ => .fail) ks f args
  len := fun s k b v => lenV (EV G c loopω) s k b v
  append := fun s k q bytes b x y => appendOp (EV G c loopω) s k q bytes b x y
  appendR := fun s k q bytes b x y => appendROp (EV G c loopω) s k q bytes b x y
  buildSliceR := fun s k sz es => buildSliceRV (EV G c loopω) s k sz es
  appendS := fun s k q bytes b x y => appendSOp (EV G c loopω) s k q bytes b x y
  sliceA := fun z n x lo hi mx s k => hSliceA z n x lo hi mx s k
  copy := fun s k q d x => copyOp (EV G c loopω) s k q d x
  fold := fun s k f xs => foldOp (EV G c loopω) s k f xs
  makeMap := fun s k b => makeMapV (EV G c loopω) s k b
  mapPut := fun s k kd m x v => mapPutV (EV G c loopω) s k kd m x v
  lookup := fun s k kd z ok m x => lookupV (EV G c loopω) s k kd z ok m x
  guard := hGuard
  cond := hCond

section
variable (G : Nat → AV) (c : Nat → List AV → St → Res)
theorem hFill_eq (d : Nat) (fr : Nat → AV) : ∀ (ps : List (Nat × Nat × AOpd)) (cs : List AV), hFill d cs (partsOf G fr ps) = fillParts G d fr cs ps
  | [], cs => rfl
  | (off, sz, x) :: ps, cs => by
    simp only [partsOf, hFill, fillParts]
    rw [hFill_eq d fr ps]
theorem atOpd_eq (fr : Nat → AV) (b : Option AOpd) : atOpd G fr b = atLoc G fr b := by
  cases b <;> rfl
theorem hBd_eq (fr : Nat → AV) (o : Option AOpd) (d : Nat) : hBd (optOpd G fr o) d = bound G fr o d := by
  cases o <;> rfl
theorem stepP_real (fr : Nat → AV) (s : St) (k : K1) (op : AOp) : stepP (realP G c) fr s k op = stepOp (EV G c loopω) fr s k (fun _ _ => .fail) op := by
  cases op <;> try rfl
  case build zero parts =>
    simp only [stepP, stepOp, realP, hBuild, hFill_eq, oV]
    show _ = match (fillParts G s.depth fr zero parts).map .agg with | some v => k v s | none => .fail
    cases fillParts G s.depth fr zero parts <;> rfl
  case subStr x lo hi =>
    simp only [stepP, stepOp, realP, hSub, subStrV, hBd_eq]
    rfl
  case slice z x lo hi mx =>
    simp only [stepP, stepOp, realP, hSlice, sliceV, hBd_eq]
    show _ = sliceV (EV G c loopω) fr s k z (opnd G fr x) lo hi mx
    unfold sliceV
    cases opnd G fr x <;> try rfl
    cases mx <;> rfl
  case sliceA z n x lo hi mx =>
    simp only [stepP, stepOp, realP, hSliceA, sliceAV, hBd_eq]
    show _ = sliceAV (EV G c loopω) fr s k z n (opnd G fr x) lo hi mx
    unfold sliceAV
    cases opnd G fr x <;> rfl
theorem runOpsP_real : ∀ (os : List AOper) (fr : Tr) (s : St) (fin : Tr → St → Res), runOpsP (realP G c) os fr s fin = runOps (EV G c loopω) os fr s fin (fun _ _ _ => .fail)
  | [], fr, s, fin => rfl
  | o :: os, fr, s, fin => by
    simp only [runOpsP, runOps]
    have key : (fun (v : AV) (s : St) => putK fr o.dst v fun fr => runOpsP (realP G c) os fr s fin) = fun v s => putK fr o.dst v fun fr => runOps (EV G c loopω) os fr s fin (fun _ _ _ => .fail) := by
      funext v s
      congr 1
      funext fr
      exact runOpsP_real os fr s fin
    cases hg : o.guard with
    | none =>
      simp only [wantedK, cond_true]
      rw [key, stepP_real]
    | some p =>
      obtain ⟨t, want⟩ := p
      simp only [wantedK, key, stepP_real]
      rw [show (realP G c).guard = hGuard from rfl]
      unfold hGuard
      cases fr.get t <;> rfl
theorem execP_real : ∀ (code : ACode), okChk code = true → execP (realP G c) code = exec (EV G c loopω) code := by
  intro code
  induction code with
  | skip => intro _; rfl
  | region chk ops =>
    intro h
    cases chk with
    | none => funext fr s k; exact runOpsP_real G c ops fr s _
    | some chk =>
      cases chk with
      | nil => funext fr s k; simp only [execP, exec, List.all_nil, cond_true]; exact runOpsP_real G c ops fr s _
      | cons _ _ => simp [okChk] at h
  | seq a b iha ihb =>
    intro h
    simp only [okChk, Bool.and_eq_true] at h
    funext fr s k
    simp only [execP, exec, iha h.1, ihb h.2]
  | mask m a ih => intro h; funext fr s k; simp only [execP, exec, maskK_eq]; rfl
  | cond x a b iha ihb =>
    intro h
    simp only [okChk, Bool.and_eq_true] at h
    funext fr s k
    simp only [execP, exec, iha h.1, ihb h.2]
    rfl
  | block id a ih => intro h; funext fr s k; simp only [execP, exec, ih h]
  | loop keep a ih => intro h; funext fr s k; simp only [execP, exec, ih h, maskK_eq]; rfl
  | exit id => intro _; rfl
  | scope a ih => intro h; funext fr s k; simp only [execP, exec, ih h]
  | ret => intro _; rfl
theorem mapO_map {α β γ : Type} (f : β → Option γ) (g : α → β) : ∀ l : List α, mapO f (l.map g) = mapO (fun x => f (g x)) l
  | [] => rfl
  | x :: l => by simp only [List.map_cons, mapO, mapO_map f g l]
theorem finP_real (fn : AFn) : finP (realP G c) fn = finK .not fn := by
  have key : ∀ fr s, hFin fn.keep (fn.results.map (resP fr s)) s = finish .not fn fr s := fun fr s => by
    unfold hFin finish
    rw [mapO_map, show (fun x => resP fr s x) = resV fr s from by funext x; cases x <;> rfl]
    cases mapO (resV fr s) fn.results with
    | none => rfl
    | some vs => cases fn.keep <;> rfl
  funext x fr s
  cases x with
  | norm => exact key fr s
  | ret => exact key fr s
  | _ => rfl
end

/-- What is asked of the words: a piece of code by name is the code, and a loop is its first round and the rest. -/
structure Zenv.OK (Z : Zenv) : Prop where
  m : ∀ m a fr s k, okChk a = true → Z.mask m a fr s k = execP Z a fr s k
  l : ∀ c keep fr s k, okChk c = true → Z.loop (execP Z c) keep fr s k = execP Z c fr s (joinK keep (Z.loop (execP Z c) keep) k)

section
variable (T : Nat → Option AFn) (G : Nat → AV) (X : Nat → List AV → St → Res)
/-- The words, with the table's calls. -/
noncomputable def PP : Zenv := realP G (callω T G X)
theorem PP_ok : (PP T G X).OK := by
  refine ⟨fun m a fr s k h => ?_, fun c keep fr s k h => ?_⟩
  · unfold PP
    rw [execP_real G _ a h]
    rfl
  · unfold PP
    rw [execP_real G _ c h]
    exact loopω_succ c keep fr s k
theorem callω_P {f : Nat} {fn : AFn} {args : List AV} {s : St} (hT : T f = some fn) (hn : Nat.beq args.length fn.np = true) (hc : okChk fn.body = true) :
    callω T G X f args s = setArgs args 0 .e fun fr => execP (PP T G X) fn.body fr (bif fn.keep then s else s.enter) (finP (PP T G X) fn) := by
  rw [callω_body]
  unfold body
  rw [hT]
  simp only [hn, cond_true, PP, execP_real G _ fn.body hc, finP_real]
  congr
  funext fr
  cases fn.keep <;> rfl
end
end Go.Ab
end
section
/- What the words come to at values of known shapes. -/
namespace Go.Ab
variable {T : Nat → Option AFn} {G : Nat → AV} {X : Nat → List AV → St → Res} {s : St} {k : K1}

theorem zz_load (n : Option Nat) (v : AV) : (PP T G X).load s k n v = loadOp (EV G (callω T G X) loopω) s k n v := rfl
theorem zz_store (n : Nat) (a v : AV) : (PP T G X).store s k n a v = storeOp (EV G (callω T G X) loopω) s k n a v := rfl
theorem z_ret (v : AV) : (PP T G X).ret v s k = k v s := rfl
theorem z_val (v : AV) : (PP T G X).val s k (some v) = k v s := rfl
theorem z_pick (t : Bool) (a b : AV) : (PP T G X).pick s k (.bool t) a b = k (if t = true then a else b) s := by cases t <;> rfl
theorem z_cond (t : Bool) (a b : Res) : (PP T G X).cond (.bool t) a b = if t = true then a else b := by cases t <;> rfl
theorem z_guard (t w : Bool) (op : K1 → Res) : (PP T G X).guard (.bool t) w op s k = if t = w then op k else k (.tup []) s := by cases t <;> cases w <;> rfl
theorem z_guard_tup (l : List AV) (w : Bool) (op : K1 → Res) : (PP T G X).guard (.tup l) w op s k = k (.tup []) s := rfl
def andK (v : AV) (op : K1 → Res) (s : St) (k : K1) : Res :=
  match v with
  | .bool b => bif b then op k else k (.bool false) s
  | _ => .fail
def orK (v : AV) (op : K1 → Res) (s : St) (k : K1) : Res :=
  match v with
  | .bool b => bif b then k (.bool true) s else op k
  | _ => .fail
theorem z_andK (t : Bool) (op : K1 → Res) : andK (.bool t) op s k = if t = true then op k else k (.bool false) s := by cases t <;> rfl
theorem z_orK (t : Bool) (op : K1 → Res) : orK (.bool t) op s k = if t = true then k (.bool true) s else op k := by cases t <;> rfl
theorem z_and1 (v : AV) (o1 : K1 → Res) : (PP T G X).guard v true (o1) s (fun x1 s1 => (PP T G X).pick s1 k v x1 (.bool false)) = andK v (fun k => o1 k) s k := by
  cases v <;> try rfl
  rename_i b; cases b <;> rfl
theorem z_or1 (v : AV) (o1 : K1 → Res) : (PP T G X).guard v false (o1) s (fun x1 s1 => (PP T G X).pick s1 k v (.bool true) x1) = orK v (fun k => o1 k) s k := by
  cases v <;> try rfl
  rename_i b; cases b <;> rfl
theorem z_and2 (v : AV) (o1 : K1 → Res) (o2 : AV → St → K1 → Res) : (PP T G X).guard v true (o1) s (fun x1 s1 => (PP T G X).guard v true (o2 x1 s1) s1 (fun x2 s2 => (PP T G X).pick s2 k v x2 (.bool false))) = andK v (fun k => o1 (fun x1 s1 => o2 x1 s1 k)) s k := by
  cases v <;> try rfl
  rename_i b; cases b <;> rfl
theorem z_or2 (v : AV) (o1 : K1 → Res) (o2 : AV → St → K1 → Res) : (PP T G X).guard v false (o1) s (fun x1 s1 => (PP T G X).guard v false (o2 x1 s1) s1 (fun x2 s2 => (PP T G X).pick s2 k v (.bool true) x2)) = orK v (fun k => o1 (fun x1 s1 => o2 x1 s1 k)) s k := by
  cases v <;> try rfl
  rename_i b; cases b <;> rfl
theorem z_and3 (v : AV) (o1 : K1 → Res) (o2 : AV → St → K1 → Res) (o3 : AV → St → AV → St → K1 → Res) : (PP T G X).guard v true (o1) s (fun x1 s1 => (PP T G X).guard v true (o2 x1 s1) s1 (fun x2 s2 => (PP T G X).guard v true (o3 x1 s1 x2 s2) s2 (fun x3 s3 => (PP T G X).pick s3 k v x3 (.bool false)))) = andK v (fun k => o1 (fun x1 s1 => o2 x1 s1 (fun x2 s2 => o3 x1 s1 x2 s2 k))) s k := by
  cases v <;> try rfl
  rename_i b; cases b <;> rfl
theorem z_or3 (v : AV) (o1 : K1 → Res) (o2 : AV → St → K1 → Res) (o3 : AV → St → AV → St → K1 → Res) : (PP T G X).guard v false (o1) s (fun x1 s1 => (PP T G X).guard v false (o2 x1 s1) s1 (fun x2 s2 => (PP T G X).guard v false (o3 x1 s1 x2 s2) s2 (fun x3 s3 => (PP T G X).pick s3 k v (.bool true) x3))) = orK v (fun k => o1 (fun x1 s1 => o2 x1 s1 (fun x2 s2 => o3 x1 s1 x2 s2 k))) s k := by
  cases v <;> try rfl
  rename_i b; cases b <;> rfl
theorem z_and4 (v : AV) (o1 : K1 → Res) (o2 : AV → St → K1 → Res) (o3 : AV → St → AV → St → K1 → Res) (o4 : AV → St → AV → St → AV → St → K1 → Res) : (PP T G X).guard v true (o1) s (fun x1 s1 => (PP T G X).guard v true (o2 x1 s1) s1 (fun x2 s2 => (PP T G X).guard v true (o3 x1 s1 x2 s2) s2 (fun x3 s3 => (PP T G X).guard v true (o4 x1 s1 x2 s2 x3 s3) s3 (fun x4 s4 => (PP T G X).pick s4 k v x4 (.bool false))))) = andK v (fun k => o1 (fun x1 s1 => o2 x1 s1 (fun x2 s2 => o3 x1 s1 x2 s2 (fun x3 s3 => o4 x1 s1 x2 s2 x3 s3 k)))) s k := by
  cases v <;> try rfl
  rename_i b; cases b <;> rfl
theorem z_or4 (v : AV) (o1 : K1 → Res) (o2 : AV → St → K1 → Res) (o3 : AV → St → AV → St → K1 → Res) (o4 : AV → St → AV → St → AV → St → K1 → Res) : (PP T G X).guard v false (o1) s (fun x1 s1 => (PP T G X).guard v false (o2 x1 s1) s1 (fun x2 s2 => (PP T G X).guard v false (o3 x1 s1 x2 s2) s2 (fun x3 s3 => (PP T G X).guard v false (o4 x1 s1 x2 s2 x3 s3) s3 (fun x4 s4 => (PP T G X).pick s4 k v (.bool true) x4)))) = orK v (fun k => o1 (fun x1 s1 => o2 x1 s1 (fun x2 s2 => o3 x1 s1 x2 s2 (fun x3 s3 => o4 x1 s1 x2 s2 x3 s3 k)))) s k := by
  cases v <;> try rfl
  rename_i b; cases b <;> rfl
theorem z_and5 (v : AV) (o1 : K1 → Res) (o2 : AV → St → K1 → Res) (o3 : AV → St → AV → St → K1 → Res) (o4 : AV → St → AV → St → AV → St → K1 → Res) (o5 : AV → St → AV → St → AV → St → AV → St → K1 → Res) : (PP T G X).guard v true (o1) s (fun x1 s1 => (PP T G X).guard v true (o2 x1 s1) s1 (fun x2 s2 => (PP T G X).guard v true (o3 x1 s1 x2 s2) s2 (fun x3 s3 => (PP T G X).guard v true (o4 x1 s1 x2 s2 x3 s3) s3 (fun x4 s4 => (PP T G X).guard v true (o5 x1 s1 x2 s2 x3 s3 x4 s4) s4 (fun x5 s5 => (PP T G X).pick s5 k v x5 (.bool false)))))) = andK v (fun k => o1 (fun x1 s1 => o2 x1 s1 (fun x2 s2 => o3 x1 s1 x2 s2 (fun x3 s3 => o4 x1 s1 x2 s2 x3 s3 (fun x4 s4 => o5 x1 s1 x2 s2 x3 s3 x4 s4 k))))) s k := by
  cases v <;> try rfl
  rename_i b; cases b <;> rfl
theorem z_or5 (v : AV) (o1 : K1 → Res) (o2 : AV → St → K1 → Res) (o3 : AV → St → AV → St → K1 → Res) (o4 : AV → St → AV → St → AV → St → K1 → Res) (o5 : AV → St → AV → St → AV → St → AV → St → K1 → Res) : (PP T G X).guard v false (o1) s (fun x1 s1 => (PP T G X).guard v false (o2 x1 s1) s1 (fun x2 s2 => (PP T G X).guard v false (o3 x1 s1 x2 s2) s2 (fun x3 s3 => (PP T G X).guard v false (o4 x1 s1 x2 s2 x3 s3) s3 (fun x4 s4 => (PP T G X).guard v false (o5 x1 s1 x2 s2 x3 s3 x4 s4) s4 (fun x5 s5 => (PP T G X).pick s5 k v (.bool true) x5))))) = orK v (fun k => o1 (fun x1 s1 => o2 x1 s1 (fun x2 s2 => o3 x1 s1 x2 s2 (fun x3 s3 => o4 x1 s1 x2 s2 x3 s3 (fun x4 s4 => o5 x1 s1 x2 s2 x3 s3 x4 s4 k))))) s k := by
  cases v <;> try rfl
  rename_i b; cases b <;> rfl
theorem z_and6 (v : AV) (o1 : K1 → Res) (o2 : AV → St → K1 → Res) (o3 : AV → St → AV → St → K1 → Res) (o4 : AV → St → AV → St → AV → St → K1 → Res) (o5 : AV → St → AV → St → AV → St → AV → St → K1 → Res) (o6 : AV → St → AV → St → AV → St → AV → St → AV → St → K1 → Res) : (PP T G X).guard v true (o1) s (fun x1 s1 => (PP T G X).guard v true (o2 x1 s1) s1 (fun x2 s2 => (PP T G X).guard v true (o3 x1 s1 x2 s2) s2 (fun x3 s3 => (PP T G X).guard v true (o4 x1 s1 x2 s2 x3 s3) s3 (fun x4 s4 => (PP T G X).guard v true (o5 x1 s1 x2 s2 x3 s3 x4 s4) s4 (fun x5 s5 => (PP T G X).guard v true (o6 x1 s1 x2 s2 x3 s3 x4 s4 x5 s5) s5 (fun x6 s6 => (PP T G X).pick s6 k v x6 (.bool false))))))) = andK v (fun k => o1 (fun x1 s1 => o2 x1 s1 (fun x2 s2 => o3 x1 s1 x2 s2 (fun x3 s3 => o4 x1 s1 x2 s2 x3 s3 (fun x4 s4 => o5 x1 s1 x2 s2 x3 s3 x4 s4 (fun x5 s5 => o6 x1 s1 x2 s2 x3 s3 x4 s4 x5 s5 k)))))) s k := by
  cases v <;> try rfl
  rename_i b; cases b <;> rfl
theorem z_or6 (v : AV) (o1 : K1 → Res) (o2 : AV → St → K1 → Res) (o3 : AV → St → AV → St → K1 → Res) (o4 : AV → St → AV → St → AV → St → K1 → Res) (o5 : AV → St → AV → St → AV → St → AV → St → K1 → Res) (o6 : AV → St → AV → St → AV → St → AV → St → AV → St → K1 → Res) : (PP T G X).guard v false (o1) s (fun x1 s1 => (PP T G X).guard v false (o2 x1 s1) s1 (fun x2 s2 => (PP T G X).guard v false (o3 x1 s1 x2 s2) s2 (fun x3 s3 => (PP T G X).guard v false (o4 x1 s1 x2 s2 x3 s3) s3 (fun x4 s4 => (PP T G X).guard v false (o5 x1 s1 x2 s2 x3 s3 x4 s4) s4 (fun x5 s5 => (PP T G X).guard v false (o6 x1 s1 x2 s2 x3 s3 x4 s4 x5 s5) s5 (fun x6 s6 => (PP T G X).pick s6 k v (.bool true) x6)))))) = orK v (fun k => o1 (fun x1 s1 => o2 x1 s1 (fun x2 s2 => o3 x1 s1 x2 s2 (fun x3 s3 => o4 x1 s1 x2 s2 x3 s3 (fun x4 s4 => o5 x1 s1 x2 s2 x3 s3 x4 s4 (fun x5 s5 => o6 x1 s1 x2 s2 x3 s3 x4 s4 x5 s5 k)))))) s k := by
  cases v <;> try rfl
  rename_i b; cases b <;> rfl
theorem z_and7 (v : AV) (o1 : K1 → Res) (o2 : AV → St → K1 → Res) (o3 : AV → St → AV → St → K1 → Res) (o4 : AV → St → AV → St → AV → St → K1 → Res) (o5 : AV → St → AV → St → AV → St → AV → St → K1 → Res) (o6 : AV → St → AV → St → AV → St → AV → St → AV → St → K1 → Res) (o7 : AV → St → AV → St → AV → St → AV → St → AV → St → AV → St → K1 → Res) : (PP T G X).guard v true (o1) s (fun x1 s1 => (PP T G X).guard v true (o2 x1 s1) s1 (fun x2 s2 => (PP T G X).guard v true (o3 x1 s1 x2 s2) s2 (fun x3 s3 => (PP T G X).guard v true (o4 x1 s1 x2 s2 x3 s3) s3 (fun x4 s4 => (PP T G X).guard v true (o5 x1 s1 x2 s2 x3 s3 x4 s4) s4 (fun x5 s5 => (PP T G X).guard v true (o6 x1 s1 x2 s2 x3 s3 x4 s4 x5 s5) s5 (fun x6 s6 => (PP T G X).guard v true (o7 x1 s1 x2 s2 x3 s3 x4 s4 x5 s5 x6 s6) s6 (fun x7 s7 => (PP T G X).pick s7 k v x7 (.bool false)))))))) = andK v (fun k => o1 (fun x1 s1 => o2 x1 s1 (fun x2 s2 => o3 x1 s1 x2 s2 (fun x3 s3 => o4 x1 s1 x2 s2 x3 s3 (fun x4 s4 => o5 x1 s1 x2 s2 x3 s3 x4 s4 (fun x5 s5 => o6 x1 s1 x2 s2 x3 s3 x4 s4 x5 s5 (fun x6 s6 => o7 x1 s1 x2 s2 x3 s3 x4 s4 x5 s5 x6 s6 k))))))) s k := by
  cases v <;> try rfl
  rename_i b; cases b <;> rfl
theorem z_or7 (v : AV) (o1 : K1 → Res) (o2 : AV → St → K1 → Res) (o3 : AV → St → AV → St → K1 → Res) (o4 : AV → St → AV → St → AV → St → K1 → Res) (o5 : AV → St → AV → St → AV → St → AV → St → K1 → Res) (o6 : AV → St → AV → St → AV → St → AV → St → AV → St → K1 → Res) (o7 : AV → St → AV → St → AV → St → AV → St → AV → St → AV → St → K1 → Res) : (PP T G X).guard v false (o1) s (fun x1 s1 => (PP T G X).guard v false (o2 x1 s1) s1 (fun x2 s2 => (PP T G X).guard v false (o3 x1 s1 x2 s2) s2 (fun x3 s3 => (PP T G X).guard v false (o4 x1 s1 x2 s2 x3 s3) s3 (fun x4 s4 => (PP T G X).guard v false (o5 x1 s1 x2 s2 x3 s3 x4 s4) s4 (fun x5 s5 => (PP T G X).guard v false (o6 x1 s1 x2 s2 x3 s3 x4 s4 x5 s5) s5 (fun x6 s6 => (PP T G X).guard v false (o7 x1 s1 x2 s2 x3 s3 x4 s4 x5 s5 x6 s6) s6 (fun x7 s7 => (PP T G X).pick s7 k v (.bool true) x7))))))) = orK v (fun k => o1 (fun x1 s1 => o2 x1 s1 (fun x2 s2 => o3 x1 s1 x2 s2 (fun x3 s3 => o4 x1 s1 x2 s2 x3 s3 (fun x4 s4 => o5 x1 s1 x2 s2 x3 s3 x4 s4 (fun x5 s5 => o6 x1 s1 x2 s2 x3 s3 x4 s4 x5 s5 (fun x6 s6 => o7 x1 s1 x2 s2 x3 s3 x4 s4 x5 s5 x6 s6 k))))))) s k := by
  cases v <;> try rfl
  rename_i b; cases b <;> rfl
theorem z_and8 (v : AV) (o1 : K1 → Res) (o2 : AV → St → K1 → Res) (o3 : AV → St → AV → St → K1 → Res) (o4 : AV → St → AV → St → AV → St → K1 → Res) (o5 : AV → St → AV → St → AV → St → AV → St → K1 → Res) (o6 : AV → St → AV → St → AV → St → AV → St → AV → St → K1 → Res) (o7 : AV → St → AV → St → AV → St → AV → St → AV → St → AV → St → K1 → Res) (o8 : AV → St → AV → St → AV → St → AV → St → AV → St → AV → St → AV → St → K1 → Res) : (PP T G X).guard v true (o1) s (fun x1 s1 => (PP T G X).guard v true (o2 x1 s1) s1 (fun x2 s2 => (PP T G X).guard v true (o3 x1 s1 x2 s2) s2 (fun x3 s3 => (PP T G X).guard v true (o4 x1 s1 x2 s2 x3 s3) s3 (fun x4 s4 => (PP T G X).guard v true (o5 x1 s1 x2 s2 x3 s3 x4 s4) s4 (fun x5 s5 => (PP T G X).guard v true (o6 x1 s1 x2 s2 x3 s3 x4 s4 x5 s5) s5 (fun x6 s6 => (PP T G X).guard v true (o7 x1 s1 x2 s2 x3 s3 x4 s4 x5 s5 x6 s6) s6 (fun x7 s7 => (PP T G X).guard v true (o8 x1 s1 x2 s2 x3 s3 x4 s4 x5 s5 x6 s6 x7 s7) s7 (fun x8 s8 => (PP T G X).pick s8 k v x8 (.bool false))))))))) = andK v (fun k => o1 (fun x1 s1 => o2 x1 s1 (fun x2 s2 => o3 x1 s1 x2 s2 (fun x3 s3 => o4 x1 s1 x2 s2 x3 s3 (fun x4 s4 => o5 x1 s1 x2 s2 x3 s3 x4 s4 (fun x5 s5 => o6 x1 s1 x2 s2 x3 s3 x4 s4 x5 s5 (fun x6 s6 => o7 x1 s1 x2 s2 x3 s3 x4 s4 x5 s5 x6 s6 (fun x7 s7 => o8 x1 s1 x2 s2 x3 s3 x4 s4 x5 s5 x6 s6 x7 s7 k)))))))) s k := by
  cases v <;> try rfl
  rename_i b; cases b <;> rfl
theorem z_or8 (v : AV) (o1 : K1 → Res) (o2 : AV → St → K1 → Res) (o3 : AV → St → AV → St → K1 → Res) (o4 : AV → St → AV → St → AV → St → K1 → Res) (o5 : AV → St → AV → St → AV → St → AV → St → K1 → Res) (o6 : AV → St → AV → St → AV → St → AV → St → AV → St → K1 → Res) (o7 : AV → St → AV → St → AV → St → AV → St → AV → St → AV → St → K1 → Res) (o8 : AV → St → AV → St → AV → St → AV → St → AV → St → AV → St → AV → St → K1 → Res) : (PP T G X).guard v false (o1) s (fun x1 s1 => (PP T G X).guard v false (o2 x1 s1) s1 (fun x2 s2 => (PP T G X).guard v false (o3 x1 s1 x2 s2) s2 (fun x3 s3 => (PP T G X).guard v false (o4 x1 s1 x2 s2 x3 s3) s3 (fun x4 s4 => (PP T G X).guard v false (o5 x1 s1 x2 s2 x3 s3 x4 s4) s4 (fun x5 s5 => (PP T G X).guard v false (o6 x1 s1 x2 s2 x3 s3 x4 s4 x5 s5) s5 (fun x6 s6 => (PP T G X).guard v false (o7 x1 s1 x2 s2 x3 s3 x4 s4 x5 s5 x6 s6) s6 (fun x7 s7 => (PP T G X).guard v false (o8 x1 s1 x2 s2 x3 s3 x4 s4 x5 s5 x6 s6 x7 s7) s7 (fun x8 s8 => (PP T G X).pick s8 k v (.bool true) x8)))))))) = orK v (fun k => o1 (fun x1 s1 => o2 x1 s1 (fun x2 s2 => o3 x1 s1 x2 s2 (fun x3 s3 => o4 x1 s1 x2 s2 x3 s3 (fun x4 s4 => o5 x1 s1 x2 s2 x3 s3 x4 s4 (fun x5 s5 => o6 x1 s1 x2 s2 x3 s3 x4 s4 x5 s5 (fun x6 s6 => o7 x1 s1 x2 s2 x3 s3 x4 s4 x5 s5 x6 s6 (fun x7 s7 => o8 x1 s1 x2 s2 x3 s3 x4 s4 x5 s5 x6 s6 x7 s7 k)))))))) s k := by
  cases v <;> try rfl
  rename_i b; cases b <;> rfl
theorem z_and9 (v : AV) (o1 : K1 → Res) (o2 : AV → St → K1 → Res) (o3 : AV → St → AV → St → K1 → Res) (o4 : AV → St → AV → St → AV → St → K1 → Res) (o5 : AV → St → AV → St → AV → St → AV → St → K1 → Res) (o6 : AV → St → AV → St → AV → St → AV → St → AV → St → K1 → Res) (o7 : AV → St → AV → St → AV → St → AV → St → AV → St → AV → St → K1 → Res) (o8 : AV → St → AV → St → AV → St → AV → St → AV → St → AV → St → AV → St → K1 → Res) (o9 : AV → St → AV → St → AV → St → AV → St → AV → St → AV → St → AV → St → AV → St → K1 → Res) : (PP T G X).guard v true (o1) s (fun x1 s1 => (PP T G X).guard v true (o2 x1 s1) s1 (fun x2 s2 => (PP T G X).guard v true (o3 x1 s1 x2 s2) s2 (fun x3 s3 => (PP T G X).guard v true (o4 x1 s1 x2 s2 x3 s3) s3 (fun x4 s4 => (PP T G X).guard v true (o5 x1 s1 x2 s2 x3 s3 x4 s4) s4 (fun x5 s5 => (PP T G X).guard v true (o6 x1 s1 x2 s2 x3 s3 x4 s4 x5 s5) s5 (fun x6 s6 => (PP T G X).guard v true (o7 x1 s1 x2 s2 x3 s3 x4 s4 x5 s5 x6 s6) s6 (fun x7 s7 => (PP T G X).guard v true (o8 x1 s1 x2 s2 x3 s3 x4 s4 x5 s5 x6 s6 x7 s7) s7 (fun x8 s8 => (PP T G X).guard v true (o9 x1 s1 x2 s2 x3 s3 x4 s4 x5 s5 x6 s6 x7 s7 x8 s8) s8 (fun x9 s9 => (PP T G X).pick s9 k v x9 (.bool false)))))))))) = andK v (fun k => o1 (fun x1 s1 => o2 x1 s1 (fun x2 s2 => o3 x1 s1 x2 s2 (fun x3 s3 => o4 x1 s1 x2 s2 x3 s3 (fun x4 s4 => o5 x1 s1 x2 s2 x3 s3 x4 s4 (fun x5 s5 => o6 x1 s1 x2 s2 x3 s3 x4 s4 x5 s5 (fun x6 s6 => o7 x1 s1 x2 s2 x3 s3 x4 s4 x5 s5 x6 s6 (fun x7 s7 => o8 x1 s1 x2 s2 x3 s3 x4 s4 x5 s5 x6 s6 x7 s7 (fun x8 s8 => o9 x1 s1 x2 s2 x3 s3 x4 s4 x5 s5 x6 s6 x7 s7 x8 s8 k))))))))) s k := by
  cases v <;> try rfl
  rename_i b; cases b <;> rfl
theorem z_or9 (v : AV) (o1 : K1 → Res) (o2 : AV → St → K1 → Res) (o3 : AV → St → AV → St → K1 → Res) (o4 : AV → St → AV → St → AV → St → K1 → Res) (o5 : AV → St → AV → St → AV → St → AV → St → K1 → Res) (o6 : AV → St → AV → St → AV → St → AV → St → AV → St → K1 → Res) (o7 : AV → St → AV → St → AV → St → AV → St → AV → St → AV → St → K1 → Res) (o8 : AV → St → AV → St → AV → St → AV → St → AV → St → AV → St → AV → St → K1 → Res) (o9 : AV → St → AV → St → AV → St → AV → St → AV → St → AV → St → AV → St → AV → St → K1 → Res) : (PP T G X).guard v false (o1) s (fun x1 s1 => (PP T G X).guard v false (o2 x1 s1) s1 (fun x2 s2 => (PP T G X).guard v false (o3 x1 s1 x2 s2) s2 (fun x3 s3 => (PP T G X).guard v false (o4 x1 s1 x2 s2 x3 s3) s3 (fun x4 s4 => (PP T G X).guard v false (o5 x1 s1 x2 s2 x3 s3 x4 s4) s4 (fun x5 s5 => (PP T G X).guard v false (o6 x1 s1 x2 s2 x3 s3 x4 s4 x5 s5) s5 (fun x6 s6 => (PP T G X).guard v false (o7 x1 s1 x2 s2 x3 s3 x4 s4 x5 s5 x6 s6) s6 (fun x7 s7 => (PP T G X).guard v false (o8 x1 s1 x2 s2 x3 s3 x4 s4 x5 s5 x6 s6 x7 s7) s7 (fun x8 s8 => (PP T G X).guard v false (o9 x1 s1 x2 s2 x3 s3 x4 s4 x5 s5 x6 s6 x7 s7 x8 s8) s8 (fun x9 s9 => (PP T G X).pick s9 k v (.bool true) x9))))))))) = orK v (fun k => o1 (fun x1 s1 => o2 x1 s1 (fun x2 s2 => o3 x1 s1 x2 s2 (fun x3 s3 => o4 x1 s1 x2 s2 x3 s3 (fun x4 s4 => o5 x1 s1 x2 s2 x3 s3 x4 s4 (fun x5 s5 => o6 x1 s1 x2 s2 x3 s3 x4 s4 x5 s5 (fun x6 s6 => o7 x1 s1 x2 s2 x3 s3 x4 s4 x5 s5 x6 s6 (fun x7 s7 => o8 x1 s1 x2 s2 x3 s3 x4 s4 x5 s5 x6 s6 x7 s7 (fun x8 s8 => o9 x1 s1 x2 s2 x3 s3 x4 s4 x5 s5 x6 s6 x7 s7 x8 s8 k))))))))) s k := by
  cases v <;> try rfl
  rename_i b; cases b <;> rfl
theorem z_and10 (v : AV) (o1 : K1 → Res) (o2 : AV → St → K1 → Res) (o3 : AV → St → AV → St → K1 → Res) (o4 : AV → St → AV → St → AV → St → K1 → Res) (o5 : AV → St → AV → St → AV → St → AV → St → K1 → Res) (o6 : AV → St → AV → St → AV → St → AV → St → AV → St → K1 → Res) (o7 : AV → St → AV → St → AV → St → AV → St → AV → St → AV → St → K1 → Res) (o8 : AV → St → AV → St → AV → St → AV → St → AV → St → AV → St → AV → St → K1 → Res) (o9 : AV → St → AV → St → AV → St → AV → St → AV → St → AV → St → AV → St → AV → St → K1 → Res) (o10 : AV → St → AV → St → AV → St → AV → St → AV → St → AV → St → AV → St → AV → St → AV → St → K1 → Res) : (PP T G X).guard v true (o1) s (fun x1 s1 => (PP T G X).guard v true (o2 x1 s1) s1 (fun x2 s2 => (PP T G X).guard v true (o3 x1 s1 x2 s2) s2 (fun x3 s3 => (PP T G X).guard v true (o4 x1 s1 x2 s2 x3 s3) s3 (fun x4 s4 => (PP T G X).guard v true (o5 x1 s1 x2 s2 x3 s3 x4 s4) s4 (fun x5 s5 => (PP T G X).guard v true (o6 x1 s1 x2 s2 x3 s3 x4 s4 x5 s5) s5 (fun x6 s6 => (PP T G X).guard v true (o7 x1 s1 x2 s2 x3 s3 x4 s4 x5 s5 x6 s6) s6 (fun x7 s7 => (PP T G X).guard v true (o8 x1 s1 x2 s2 x3 s3 x4 s4 x5 s5 x6 s6 x7 s7) s7 (fun x8 s8 => (PP T G X).guard v true (o9 x1 s1 x2 s2 x3 s3 x4 s4 x5 s5 x6 s6 x7 s7 x8 s8) s8 (fun x9 s9 => (PP T G X).guard v true (o10 x1 s1 x2 s2 x3 s3 x4 s4 x5 s5 x6 s6 x7 s7 x8 s8 x9 s9) s9 (fun x10 s10 => (PP T G X).pick s10 k v x10 (.bool false))))))))))) = andK v (fun k => o1 (fun x1 s1 => o2 x1 s1 (fun x2 s2 => o3 x1 s1 x2 s2 (fun x3 s3 => o4 x1 s1 x2 s2 x3 s3 (fun x4 s4 => o5 x1 s1 x2 s2 x3 s3 x4 s4 (fun x5 s5 => o6 x1 s1 x2 s2 x3 s3 x4 s4 x5 s5 (fun x6 s6 => o7 x1 s1 x2 s2 x3 s3 x4 s4 x5 s5 x6 s6 (fun x7 s7 => o8 x1 s1 x2 s2 x3 s3 x4 s4 x5 s5 x6 s6 x7 s7 (fun x8 s8 => o9 x1 s1 x2 s2 x3 s3 x4 s4 x5 s5 x6 s6 x7 s7 x8 s8 (fun x9 s9 => o10 x1 s1 x2 s2 x3 s3 x4 s4 x5 s5 x6 s6 x7 s7 x8 s8 x9 s9 k)))))))))) s k := by
  cases v <;> try rfl
  rename_i b; cases b <;> rfl
theorem z_or10 (v : AV) (o1 : K1 → Res) (o2 : AV → St → K1 → Res) (o3 : AV → St → AV → St → K1 → Res) (o4 : AV → St → AV → St → AV → St → K1 → Res) (o5 : AV → St → AV → St → AV → St → AV → St → K1 → Res) (o6 : AV → St → AV → St → AV → St → AV → St → AV → St → K1 → Res) (o7 : AV → St → AV → St → AV → St → AV → St → AV → St → AV → St → K1 → Res) (o8 : AV → St → AV → St → AV → St → AV → St → AV → St → AV → St → AV → St → K1 → Res) (o9 : AV → St → AV → St → AV → St → AV → St → AV → St → AV → St → AV → St → AV → St → K1 → Res) (o10 : AV → St → AV → St → AV → St → AV → St → AV → St → AV → St → AV → St → AV → St → AV → St → K1 → Res) : (PP T G X).guard v false (o1) s (fun x1 s1 => (PP T G X).guard v false (o2 x1 s1) s1 (fun x2 s2 => (PP T G X).guard v false (o3 x1 s1 x2 s2) s2 (fun x3 s3 => (PP T G X).guard v false (o4 x1 s1 x2 s2 x3 s3) s3 (fun x4 s4 => (PP T G X).guard v false (o5 x1 s1 x2 s2 x3 s3 x4 s4) s4 (fun x5 s5 => (PP T G X).guard v false (o6 x1 s1 x2 s2 x3 s3 x4 s4 x5 s5) s5 (fun x6 s6 => (PP T G X).guard v false (o7 x1 s1 x2 s2 x3 s3 x4 s4 x5 s5 x6 s6) s6 (fun x7 s7 => (PP T G X).guard v false (o8 x1 s1 x2 s2 x3 s3 x4 s4 x5 s5 x6 s6 x7 s7) s7 (fun x8 s8 => (PP T G X).guard v false (o9 x1 s1 x2 s2 x3 s3 x4 s4 x5 s5 x6 s6 x7 s7 x8 s8) s8 (fun x9 s9 => (PP T G X).guard v false (o10 x1 s1 x2 s2 x3 s3 x4 s4 x5 s5 x6 s6 x7 s7 x8 s8 x9 s9) s9 (fun x10 s10 => (PP T G X).pick s10 k v (.bool true) x10)))))))))) = orK v (fun k => o1 (fun x1 s1 => o2 x1 s1 (fun x2 s2 => o3 x1 s1 x2 s2 (fun x3 s3 => o4 x1 s1 x2 s2 x3 s3 (fun x4 s4 => o5 x1 s1 x2 s2 x3 s3 x4 s4 (fun x5 s5 => o6 x1 s1 x2 s2 x3 s3 x4 s4 x5 s5 (fun x6 s6 => o7 x1 s1 x2 s2 x3 s3 x4 s4 x5 s5 x6 s6 (fun x7 s7 => o8 x1 s1 x2 s2 x3 s3 x4 s4 x5 s5 x6 s6 x7 s7 (fun x8 s8 => o9 x1 s1 x2 s2 x3 s3 x4 s4 x5 s5 x6 s6 x7 s7 x8 s8 (fun x9 s9 => o10 x1 s1 x2 s2 x3 s3 x4 s4 x5 s5 x6 s6 x7 s7 x8 s8 x9 s9 k)))))))))) s k := by
  cases v <;> try rfl
  rename_i b; cases b <;> rfl
theorem z_and11 (v : AV) (o1 : K1 → Res) (o2 : AV → St → K1 → Res) (o3 : AV → St → AV → St → K1 → Res) (o4 : AV → St → AV → St → AV → St → K1 → Res) (o5 : AV → St → AV → St → AV → St → AV → St → K1 → Res) (o6 : AV → St → AV → St → AV → St → AV → St → AV → St → K1 → Res) (o7 : AV → St → AV → St → AV → St → AV → St → AV → St → AV → St → K1 → Res) (o8 : AV → St → AV → St → AV → St → AV → St → AV → St → AV → St → AV → St → K1 → Res) (o9 : AV → St → AV → St → AV → St → AV → St → AV → St → AV → St → AV → St → AV → St → K1 → Res) (o10 : AV → St → AV → St → AV → St → AV → St → AV → St → AV → St → AV → St → AV → St → AV → St → K1 → Res) (o11 : AV → St → AV → St → AV → St → AV → St → AV → St → AV → St → AV → St → AV → St → AV → St → AV → St → K1 → Res) : (PP T G X).guard v true (o1) s (fun x1 s1 => (PP T G X).guard v true (o2 x1 s1) s1 (fun x2 s2 => (PP T G X).guard v true (o3 x1 s1 x2 s2) s2 (fun x3 s3 => (PP T G X).guard v true (o4 x1 s1 x2 s2 x3 s3) s3 (fun x4 s4 => (PP T G X).guard v true (o5 x1 s1 x2 s2 x3 s3 x4 s4) s4 (fun x5 s5 => (PP T G X).guard v true (o6 x1 s1 x2 s2 x3 s3 x4 s4 x5 s5) s5 (fun x6 s6 => (PP T G X).guard v true (o7 x1 s1 x2 s2 x3 s3 x4 s4 x5 s5 x6 s6) s6 (fun x7 s7 => (PP T G X).guard v true (o8 x1 s1 x2 s2 x3 s3 x4 s4 x5 s5 x6 s6 x7 s7) s7 (fun x8 s8 => (PP T G X).guard v true (o9 x1 s1 x2 s2 x3 s3 x4 s4 x5 s5 x6 s6 x7 s7 x8 s8) s8 (fun x9 s9 => (PP T G X).guard v true (o10 x1 s1 x2 s2 x3 s3 x4 s4 x5 s5 x6 s6 x7 s7 x8 s8 x9 s9) s9 (fun x10 s10 => (PP T G X).guard v true (o11 x1 s1 x2 s2 x3 s3 x4 s4 x5 s5 x6 s6 x7 s7 x8 s8 x9 s9 x10 s10) s10 (fun x11 s11 => (PP T G X).pick s11 k v x11 (.bool false)))))))))))) = andK v (fun k => o1 (fun x1 s1 => o2 x1 s1 (fun x2 s2 => o3 x1 s1 x2 s2 (fun x3 s3 => o4 x1 s1 x2 s2 x3 s3 (fun x4 s4 => o5 x1 s1 x2 s2 x3 s3 x4 s4 (fun x5 s5 => o6 x1 s1 x2 s2 x3 s3 x4 s4 x5 s5 (fun x6 s6 => o7 x1 s1 x2 s2 x3 s3 x4 s4 x5 s5 x6 s6 (fun x7 s7 => o8 x1 s1 x2 s2 x3 s3 x4 s4 x5 s5 x6 s6 x7 s7 (fun x8 s8 => o9 x1 s1 x2 s2 x3 s3 x4 s4 x5 s5 x6 s6 x7 s7 x8 s8 (fun x9 s9 => o10 x1 s1 x2 s2 x3 s3 x4 s4 x5 s5 x6 s6 x7 s7 x8 s8 x9 s9 (fun x10 s10 => o11 x1 s1 x2 s2 x3 s3 x4 s4 x5 s5 x6 s6 x7 s7 x8 s8 x9 s9 x10 s10 k))))))))))) s k := by
  cases v <;> try rfl
  rename_i b; cases b <;> rfl
theorem z_or11 (v : AV) (o1 : K1 → Res) (o2 : AV → St → K1 → Res) (o3 : AV → St → AV → St → K1 → Res) (o4 : AV → St → AV → St → AV → St → K1 → Res) (o5 : AV → St → AV → St → AV → St → AV → St → K1 → Res) (o6 : AV → St → AV → St → AV → St → AV → St → AV → St → K1 → Res) (o7 : AV → St → AV → St → AV → St → AV → St → AV → St → AV → St → K1 → Res) (o8 : AV → St → AV → St → AV → St → AV → St → AV → St → AV → St → AV → St → K1 → Res) (o9 : AV → St → AV → St → AV → St → AV → St → AV → St → AV → St → AV → St → AV → St → K1 → Res) (o10 : AV → St → AV → St → AV → St → AV → St → AV → St → AV → St → AV → St → AV → St → AV → St → K1 → Res) (o11 : AV → St → AV → St → AV → St → AV → St → AV → St → AV → St → AV → St → AV → St → AV → St → AV → St → K1 → Res) : (PP T G X).guard v false (o1) s (fun x1 s1 => (PP T G X).guard v false (o2 x1 s1) s1 (fun x2 s2 => (PP T G X).guard v false (o3 x1 s1 x2 s2) s2 (fun x3 s3 => (PP T G X).guard v false (o4 x1 s1 x2 s2 x3 s3) s3 (fun x4 s4 => (PP T G X).guard v false (o5 x1 s1 x2 s2 x3 s3 x4 s4) s4 (fun x5 s5 => (PP T G X).guard v false (o6 x1 s1 x2 s2 x3 s3 x4 s4 x5 s5) s5 (fun x6 s6 => (PP T G X).guard v false (o7 x1 s1 x2 s2 x3 s3 x4 s4 x5 s5 x6 s6) s6 (fun x7 s7 => (PP T G X).guard v false (o8 x1 s1 x2 s2 x3 s3 x4 s4 x5 s5 x6 s6 x7 s7) s7 (fun x8 s8 => (PP T G X).guard v false (o9 x1 s1 x2 s2 x3 s3 x4 s4 x5 s5 x6 s6 x7 s7 x8 s8) s8 (fun x9 s9 => (PP T G X).guard v false (o10 x1 s1 x2 s2 x3 s3 x4 s4 x5 s5 x6 s6 x7 s7 x8 s8 x9 s9) s9 (fun x10 s10 => (PP T G X).guard v false (o11 x1 s1 x2 s2 x3 s3 x4 s4 x5 s5 x6 s6 x7 s7 x8 s8 x9 s9 x10 s10) s10 (fun x11 s11 => (PP T G X).pick s11 k v (.bool true) x11))))))))))) = orK v (fun k => o1 (fun x1 s1 => o2 x1 s1 (fun x2 s2 => o3 x1 s1 x2 s2 (fun x3 s3 => o4 x1 s1 x2 s2 x3 s3 (fun x4 s4 => o5 x1 s1 x2 s2 x3 s3 x4 s4 (fun x5 s5 => o6 x1 s1 x2 s2 x3 s3 x4 s4 x5 s5 (fun x6 s6 => o7 x1 s1 x2 s2 x3 s3 x4 s4 x5 s5 x6 s6 (fun x7 s7 => o8 x1 s1 x2 s2 x3 s3 x4 s4 x5 s5 x6 s6 x7 s7 (fun x8 s8 => o9 x1 s1 x2 s2 x3 s3 x4 s4 x5 s5 x6 s6 x7 s7 x8 s8 (fun x9 s9 => o10 x1 s1 x2 s2 x3 s3 x4 s4 x5 s5 x6 s6 x7 s7 x8 s8 x9 s9 (fun x10 s10 => o11 x1 s1 x2 s2 x3 s3 x4 s4 x5 s5 x6 s6 x7 s7 x8 s8 x9 s9 x10 s10 k))))))))))) s k := by
  cases v <;> try rfl
  rename_i b; cases b <;> rfl
theorem z_and12 (v : AV) (o1 : K1 → Res) (o2 : AV → St → K1 → Res) (o3 : AV → St → AV → St → K1 → Res) (o4 : AV → St → AV → St → AV → St → K1 → Res) (o5 : AV → St → AV → St → AV → St → AV → St → K1 → Res) (o6 : AV → St → AV → St → AV → St → AV → St → AV → St → K1 → Res) (o7 : AV → St → AV → St → AV → St → AV → St → AV → St → AV → St → K1 → Res) (o8 : AV → St → AV → St → AV → St → AV → St → AV → St → AV → St → AV → St → K1 → Res) (o9 : AV → St → AV → St → AV → St → AV → St → AV → St → AV → St → AV → St → AV → St → K1 → Res) (o10 : AV → St → AV → St → AV → St → AV → St → AV → St → AV → St → AV → St → AV → St → AV → St → K1 → Res) (o11 : AV → St → AV → St → AV → St → AV → St → AV → St → AV → St → AV → St → AV → St → AV → St → AV → St → K1 → Res) (o12 : AV → St → AV → St → AV → St → AV → St → AV → St → AV → St → AV → St → AV → St → AV → St → AV → St → AV → St → K1 → Res) : (PP T G X).guard v true (o1) s (fun x1 s1 => (PP T G X).guard v true (o2 x1 s1) s1 (fun x2 s2 => (PP T G X).guard v true (o3 x1 s1 x2 s2) s2 (fun x3 s3 => (PP T G X).guard v true (o4 x1 s1 x2 s2 x3 s3) s3 (fun x4 s4 => (PP T G X).guard v true (o5 x1 s1 x2 s2 x3 s3 x4 s4) s4 (fun x5 s5 => (PP T G X).guard v true (o6 x1 s1 x2 s2 x3 s3 x4 s4 x5 s5) s5 (fun x6 s6 => (PP T G X).guard v true (o7 x1 s1 x2 s2 x3 s3 x4 s4 x5 s5 x6 s6) s6 (fun x7 s7 => (PP T G X).guard v true (o8 x1 s1 x2 s2 x3 s3 x4 s4 x5 s5 x6 s6 x7 s7) s7 (fun x8 s8 => (PP T G X).guard v true (o9 x1 s1 x2 s2 x3 s3 x4 s4 x5 s5 x6 s6 x7 s7 x8 s8) s8 (fun x9 s9 => (PP T G X).guard v true (o10 x1 s1 x2 s2 x3 s3 x4 s4 x5 s5 x6 s6 x7 s7 x8 s8 x9 s9) s9 (fun x10 s10 => (PP T G X).guard v true (o11 x1 s1 x2 s2 x3 s3 x4 s4 x5 s5 x6 s6 x7 s7 x8 s8 x9 s9 x10 s10) s10 (fun x11 s11 => (PP T G X).guard v true (o12 x1 s1 x2 s2 x3 s3 x4 s4 x5 s5 x6 s6 x7 s7 x8 s8 x9 s9 x10 s10 x11 s11) s11 (fun x12 s12 => (PP T G X).pick s12 k v x12 (.bool false))))))))))))) = andK v (fun k => o1 (fun x1 s1 => o2 x1 s1 (fun x2 s2 => o3 x1 s1 x2 s2 (fun x3 s3 => o4 x1 s1 x2 s2 x3 s3 (fun x4 s4 => o5 x1 s1 x2 s2 x3 s3 x4 s4 (fun x5 s5 => o6 x1 s1 x2 s2 x3 s3 x4 s4 x5 s5 (fun x6 s6 => o7 x1 s1 x2 s2 x3 s3 x4 s4 x5 s5 x6 s6 (fun x7 s7 => o8 x1 s1 x2 s2 x3 s3 x4 s4 x5 s5 x6 s6 x7 s7 (fun x8 s8 => o9 x1 s1 x2 s2 x3 s3 x4 s4 x5 s5 x6 s6 x7 s7 x8 s8 (fun x9 s9 => o10 x1 s1 x2 s2 x3 s3 x4 s4 x5 s5 x6 s6 x7 s7 x8 s8 x9 s9 (fun x10 s10 => o11 x1 s1 x2 s2 x3 s3 x4 s4 x5 s5 x6 s6 x7 s7 x8 s8 x9 s9 x10 s10 (fun x11 s11 => o12 x1 s1 x2 s2 x3 s3 x4 s4 x5 s5 x6 s6 x7 s7 x8 s8 x9 s9 x10 s10 x11 s11 k)))))))))))) s k := by
  cases v <;> try rfl
  rename_i b; cases b <;> rfl
theorem z_or12 (v : AV) (o1 : K1 → Res) (o2 : AV → St → K1 → Res) (o3 : AV → St → AV → St → K1 → Res) (o4 : AV → St → AV → St → AV → St → K1 → Res) (o5 : AV → St → AV → St → AV → St → AV → St → K1 → Res) (o6 : AV → St → AV → St → AV → St → AV → St → AV → St → K1 → Res) (o7 : AV → St → AV → St → AV → St → AV → St → AV → St → AV → St → K1 → Res) (o8 : AV → St → AV → St → AV → St → AV → St → AV → St → AV → St → AV → St → K1 → Res) (o9 : AV → St → AV → St → AV → St → AV → St → AV → St → AV → St → AV → St → AV → St → K1 → Res) (o10 : AV → St → AV → St → AV → St → AV → St → AV → St → AV → St → AV → St → AV → St → AV → St → K1 → Res) (o11 : AV → St → AV → St → AV → St → AV → St → AV → St → AV → St → AV → St → AV → St → AV → St → AV → St → K1 → Res) (o12 : AV → St → AV → St → AV → St → AV → St → AV → St → AV → St → AV → St → AV → St → AV → St → AV → St → AV → St → K1 → Res) : (PP T G X).guard v false (o1) s (fun x1 s1 => (PP T G X).guard v false (o2 x1 s1) s1 (fun x2 s2 => (PP T G X).guard v false (o3 x1 s1 x2 s2) s2 (fun x3 s3 => (PP T G X).guard v false (o4 x1 s1 x2 s2 x3 s3) s3 (fun x4 s4 => (PP T G X).guard v false (o5 x1 s1 x2 s2 x3 s3 x4 s4) s4 (fun x5 s5 => (PP T G X).guard v false (o6 x1 s1 x2 s2 x3 s3 x4 s4 x5 s5) s5 (fun x6 s6 => (PP T G X).guard v false (o7 x1 s1 x2 s2 x3 s3 x4 s4 x5 s5 x6 s6) s6 (fun x7 s7 => (PP T G X).guard v false (o8 x1 s1 x2 s2 x3 s3 x4 s4 x5 s5 x6 s6 x7 s7) s7 (fun x8 s8 => (PP T G X).guard v false (o9 x1 s1 x2 s2 x3 s3 x4 s4 x5 s5 x6 s6 x7 s7 x8 s8) s8 (fun x9 s9 => (PP T G X).guard v false (o10 x1 s1 x2 s2 x3 s3 x4 s4 x5 s5 x6 s6 x7 s7 x8 s8 x9 s9) s9 (fun x10 s10 => (PP T G X).guard v false (o11 x1 s1 x2 s2 x3 s3 x4 s4 x5 s5 x6 s6 x7 s7 x8 s8 x9 s9 x10 s10) s10 (fun x11 s11 => (PP T G X).guard v false (o12 x1 s1 x2 s2 x3 s3 x4 s4 x5 s5 x6 s6 x7 s7 x8 s8 x9 s9 x10 s10 x11 s11) s11 (fun x12 s12 => (PP T G X).pick s12 k v (.bool true) x12)))))))))))) = orK v (fun k => o1 (fun x1 s1 => o2 x1 s1 (fun x2 s2 => o3 x1 s1 x2 s2 (fun x3 s3 => o4 x1 s1 x2 s2 x3 s3 (fun x4 s4 => o5 x1 s1 x2 s2 x3 s3 x4 s4 (fun x5 s5 => o6 x1 s1 x2 s2 x3 s3 x4 s4 x5 s5 (fun x6 s6 => o7 x1 s1 x2 s2 x3 s3 x4 s4 x5 s5 x6 s6 (fun x7 s7 => o8 x1 s1 x2 s2 x3 s3 x4 s4 x5 s5 x6 s6 x7 s7 (fun x8 s8 => o9 x1 s1 x2 s2 x3 s3 x4 s4 x5 s5 x6 s6 x7 s7 x8 s8 (fun x9 s9 => o10 x1 s1 x2 s2 x3 s3 x4 s4 x5 s5 x6 s6 x7 s7 x8 s8 x9 s9 (fun x10 s10 => o11 x1 s1 x2 s2 x3 s3 x4 s4 x5 s5 x6 s6 x7 s7 x8 s8 x9 s9 x10 s10 (fun x11 s11 => o12 x1 s1 x2 s2 x3 s3 x4 s4 x5 s5 x6 s6 x7 s7 x8 s8 x9 s9 x10 s10 x11 s11 k)))))))))))) s k := by
  cases v <;> try rfl
  rename_i b; cases b <;> rfl
theorem z_boxRo (v : AV) (h : v.isVal = true) : (PP T G X).boxRo v s k = k (.vptr (v.pub s.depth).cells) s := by
  show hBoxRo v s k = _
  unfold hBoxRo
  rw [h]; rfl
theorem z_boxMut (v : AV) (h : v.isVal = true) : (PP T G X).boxMut v s k = k (.ref (.l s.own.length) 0) (s.new (.cells (v.pub s.depth).cells)) := by
  show hBoxMut v s k = _
  unfold hBoxMut
  rw [h]; rfl
section
variable (cs : List AV) (kk : IntKind) (n : Int) (b : Bool) (bs : List Nat) (a : Loc) (o sz : Nat) (es : List AV) (g : Gr) (f : Nat)
theorem z_boxRo_agg : (PP T G X).boxRo (.agg cs) s k = k (.vptr cs) s := rfl
theorem z_boxRo_int : (PP T G X).boxRo (.int kk n) s k = k (.vptr [.int kk n]) s := rfl
theorem z_boxRo_bool : (PP T G X).boxRo (.bool b) s k = k (.vptr [.bool b]) s := rfl
theorem z_boxRo_str : (PP T G X).boxRo (.str bs) s k = k (.vptr [.str bs]) s := rfl
theorem z_boxRo_sl : (PP T G X).boxRo (.sl sz es g) s k = k (.vptr [.sl sz es (g.pub s.depth)]) s := rfl
theorem z_boxRo_fn : (PP T G X).boxRo (.fn f cs) s k = k (.vptr [.fn f cs]) s := rfl
theorem z_boxRo_vptr : (PP T G X).boxRo (.vptr cs) s k = k (.vptr [.vptr cs]) s := rfl
theorem z_boxRo_ref : (PP T G X).boxRo (.ref a o) s k = k (.vptr [.ref (a.pub s.depth) o]) s := rfl
end
theorem z_len_sl (sz : Nat) (es : List AV) (g : Gr) : (PP T G X).len s k false (.sl sz es g) = k (.int .i64 es.length) s := rfl
theorem z_len_msl (a : Loc) (off n c sz : Nat) : (PP T G X).len s k false (.msl a off n c sz) = k (.int .i64 n) s := rfl
theorem z_len_str (bs : List Nat) : (PP T G X).len s k true (.str bs) = k (.int .i64 bs.length) s := rfl
theorem z_load1 (c : AV) (cs : List AV) : (PP T G X).load s k none (.vptr (c :: cs)) = k c s := rfl
theorem z_loadn (n : Nat) (cs : List AV) (h : n ≤ cs.length) : (PP T G X).load s k (some n) (.vptr cs) = k (.agg (cs.take n)) s := by
  show (bif Nat.ble n cs.length then _ else _) = _
  rw [show Nat.ble n cs.length = true from Nat.ble_eq_true_of_le h]; rfl
theorem z_fa (off : Nat) (cs : List AV) : (PP T G X).fieldAddr s k off (.vptr cs) = k (.vptr (cs.drop off)) s := rfl
theorem z_fa_ref (off o : Nat) (a : Loc) : (PP T G X).fieldAddr s k off (.ref a o) = k (.ref a (o + off)) s := rfl
theorem asNat_nat (kk : IntKind) (n : Nat) : asNat (.int kk (n : Int)) = some n := by simp [asNat]
theorem z_idx (sz : Nat) (es : List AV) (g : Gr) (kk : IntKind) (i : Nat) (e : AV) (h : es[i]? = some e) : (PP T G X).idx s k sz (.sl sz es g) (.int kk (i : Int)) = k (.vptr e.cells) s := by
  show idxV (EV G (callω T G X) loopω) s k sz (.sl sz es g) (.int kk (i : Int)) = _
  unfold idxV
  rw [asNat_nat]
  simp only [show Nat.beq sz sz = true from Nat.beq_refl sz, cond_true, h]
  rfl
theorem z_idxI (sz : Nat) (es : List AV) (g : Gr) (kk : IntKind) (i : Int) (e : AV) (h0 : 0 ≤ i) (h : es[i.toNat]? = some e) : (PP T G X).idx s k sz (.sl sz es g) (.int kk i) = k (.vptr e.cells) s := by
  have := z_idx (T := T) (G := G) (X := X) (s := s) (k := k) sz es g kk i.toNat e h
  rwa [Int.toNat_of_nonneg h0] at this
theorem z_call {f : Nat} {args : List AV} {v : AV} {s' : St} (h : callω T G X f args s = .ok v s') (hd : s'.depth = s.depth) : (PP T G X).call s k f args = k v s' := by
  show callV _ _ _ _ _ _ = _
  unfold callV
  show (match callω T G X f args s with | .ok v s' => _ | .panic v s' => _ | .fail => _) = _
  rw [h]
  simp only [hd, Nat.beq_refl, cond_true]
theorem z_call0 {f : Nat} {args : List AV} {v : AV} (h : callω T G X f args s = .ok v s) : (PP T G X).call s k f args = k v s := z_call h rfl
theorem z_callF {f : Nat} {caps args : List AV} : (PP T G X).callF s k (.fn f caps) args = (PP T G X).call s k f (args ++ caps) := rfl
theorem z_callP {f : Nat} {args : List AV} {v : AV} {s' : St} (ha : AV.reflessL args = true) (h : callω T G X f args { own := [], up := [], ro := [] } = .ok v s') (hv : v.refless = true) : (PP T G X).callP s k f args = k v s := by
  show callPV _ _ _ _ _ = _
  unfold callPV
  rw [ha]
  simp only [cond_true]
  show (match callω T G X f args _ with | .ok v _ => _ | _ => _) = _
  rw [h]
  simp only [hv, cond_true]
theorem z_extract (i : Nat) (vs : List AV) (v : AV) (h : vs[i]? = some v) : (PP T G X).extract s k i (.tup vs) = k v s := by
  show oV _ _ _ _ = _
  rw [h]; rfl

/-! Numbers. -/
section
variable (kk : IntKind) (a b : Int)
theorem b_add : binV .add (.int kk a) (.int kk b) = some (.int kk (kk.wrap (a + b))) := by simp [binV, intBin]
theorem b_sub : binV .sub (.int kk a) (.int kk b) = some (.int kk (kk.wrap (a - b))) := by simp [binV, intBin]
theorem b_mul : binV .mul (.int kk a) (.int kk b) = some (.int kk (kk.wrap (a * b))) := by simp [binV, intBin]
theorem b_quo (h : b ≠ 0) : binV .quo (.int kk a) (.int kk b) = some (.int kk (kk.wrap (a.tdiv b))) := by simp [binV, intBin, h]
theorem b_rem (h : b ≠ 0) : binV .rem (.int kk a) (.int kk b) = some (.int kk (a.tmod b)) := by simp [binV, intBin, h]
theorem b_eql : binV .eql (.int kk a) (.int kk b) = some (.bool (decide (a = b))) := by
  simp only [binV, intBin, ↓reduceIte]; congr 2
theorem b_neq : binV .neq (.int kk a) (.int kk b) = some (.bool (decide (¬ a = b))) := by
  simp only [binV, intBin, ↓reduceIte, bne]; congr 2; by_cases h : a = b <;> simp [h]
theorem b_lss : binV .lss (.int kk a) (.int kk b) = some (.bool (decide (a < b))) := by simp [binV, intBin]
theorem b_leq : binV .leq (.int kk a) (.int kk b) = some (.bool (decide (a ≤ b))) := by simp [binV, intBin]
theorem b_gtr : binV .gtr (.int kk a) (.int kk b) = some (.bool (decide (b < a))) := by simp [binV, intBin]
theorem b_geq : binV .geq (.int kk a) (.int kk b) = some (.bool (decide (b ≤ a))) := by simp [binV, intBin]
end
section
variable (kk : IntKind) (a b : Int)
theorem z_add : (PP T G X).val s k (binV .add (.int kk a) (.int kk b)) = k (.int kk (kk.wrap (a + b))) s := by rw [b_add]; rfl
theorem z_sub : (PP T G X).val s k (binV .sub (.int kk a) (.int kk b)) = k (.int kk (kk.wrap (a - b))) s := by rw [b_sub]; rfl
theorem z_mul : (PP T G X).val s k (binV .mul (.int kk a) (.int kk b)) = k (.int kk (kk.wrap (a * b))) s := by rw [b_mul]; rfl
theorem z_quo (h : b ≠ 0) : (PP T G X).val s k (binV .quo (.int kk a) (.int kk b)) = k (.int kk (kk.wrap (a.tdiv b))) s := by rw [b_quo _ _ _ h]; rfl
theorem z_rem (h : b ≠ 0) : (PP T G X).val s k (binV .rem (.int kk a) (.int kk b)) = k (.int kk (a.tmod b)) s := by rw [b_rem _ _ _ h]; rfl
theorem z_eql : (PP T G X).val s k (binV .eql (.int kk a) (.int kk b)) = k (.bool (decide (a = b))) s := by rw [b_eql]; rfl
theorem z_neq : (PP T G X).val s k (binV .neq (.int kk a) (.int kk b)) = k (.bool (decide (¬ a = b))) s := by rw [b_neq]; rfl
theorem z_lss : (PP T G X).val s k (binV .lss (.int kk a) (.int kk b)) = k (.bool (decide (a < b))) s := by rw [b_lss]; rfl
theorem z_leq : (PP T G X).val s k (binV .leq (.int kk a) (.int kk b)) = k (.bool (decide (a ≤ b))) s := by rw [b_leq]; rfl
theorem z_gtr : (PP T G X).val s k (binV .gtr (.int kk a) (.int kk b)) = k (.bool (decide (b < a))) s := by rw [b_gtr]; rfl
theorem z_geq : (PP T G X).val s k (binV .geq (.int kk a) (.int kk b)) = k (.bool (decide (b ≤ a))) s := by rw [b_geq]; rfl
theorem z_not (t : Bool) : (PP T G X).val s k (unV .not (.bool t)) = k (.bool (!t)) s := rfl
theorem z_neg : (PP T G X).val s k (unV .neg (.int kk a)) = k (.int kk (kk.wrap (0 - a))) s := rfl
end
theorem u_not (t : Bool) : unV .not (.bool t) = some (.bool (!t)) := rfl
theorem wrap_in (a : Int) (h1 : -9223372036854775808 ≤ a) (h2 : a ≤ 9223372036854775807) : IntKind.wrap .i64 a = a := IntWalk.i64_in a ⟨h1, h2⟩
theorem wrap_succ (n : Nat) (h : n < 9223372036854775807) : IntKind.wrap .i64 ((n : Int) + 1) = ((n + 1 : Nat) : Int) := by
  rw [wrap_in _ (by omega) (by omega)]; rfl

/-! Results. -/
/-- A value that a caller may have as it is. -/
def AV.plain : AV → Bool
  | .int .. | .bool _ | .str _ | .nilp | .nilf | .nili | .nilmap => true
  | _ => false
theorem freeze_plain {s : St} {v : AV} (h : v.plain = true) : freeze s v = some v := by
  cases v <;> simp [AV.plain] at h <;> rfl
theorem z_fin1 {own : List AObj} {u : List AObj} {us ro : List (List AObj)} (v w : AV) (h : freeze { own, up := u :: us, ro } v = some w) : (PP T G X).fin false [some v] { own, up := u :: us, ro } = .ok w { own := u, up := us, ro } := by
  show hFin false [some v] { own, up := u :: us, ro } = _
  unfold hFin
  simp only [mapO, Option.bind_some, Option.map_some, cond_false, h, tupV]
theorem z_fin1p {own : List AObj} {u : List AObj} {us ro : List (List AObj)} (v : AV) (h : v.plain = true) : (PP T G X).fin false [some v] { own, up := u :: us, ro } = .ok v { own := u, up := us, ro } := z_fin1 v v (freeze_plain h)
theorem z_fin2 {own : List AObj} {u : List AObj} {us ro : List (List AObj)} (v1 v2 w1 w2 : AV) (h1 : freeze { own, up := u :: us, ro } v1 = some w1) (h2 : freeze { own, up := u :: us, ro } v2 = some w2) : (PP T G X).fin false [some v1, some v2] { own, up := u :: us, ro } = .ok (.tup [w1, w2]) { own := u, up := us, ro } := by
  show hFin false [some v1, some v2] { own, up := u :: us, ro } = _
  unfold hFin
  simp only [mapO, Option.bind_some, Option.map_some, cond_false, h1, h2, tupV]
section
variable {own : List AObj} {u : List AObj} {us ro : List (List AObj)}
theorem z_fin_int (kk : IntKind) (n : Int) : (PP T G X).fin false [some (.int kk n)] { own, up := u :: us, ro } = .ok (.int kk n) { own := u, up := us, ro } := rfl
theorem z_fin_bool (b : Bool) : (PP T G X).fin false [some (.bool b)] { own, up := u :: us, ro } = .ok (.bool b) { own := u, up := us, ro } := rfl
theorem z_fin_str (b : List Nat) : (PP T G X).fin false [some (.str b)] { own, up := u :: us, ro } = .ok (.str b) { own := u, up := us, ro } := rfl
end
theorem z_ent_int (kk : IntKind) (n : Int) : (PP T G X).fin false [some (.int kk n)] s.enter = .ok (.int kk n) s := rfl
theorem z_ent_bool (b : Bool) : (PP T G X).fin false [some (.bool b)] s.enter = .ok (.bool b) s := rfl
theorem z_ent_str (b : List Nat) : (PP T G X).fin false [some (.str b)] s.enter = .ok (.str b) s := rfl
/-! A variable that the running frame has just made. -/
theorem get_new_l (s : St) (o : AObj) : (s.new o).get (.l s.own.length) = some o := by simp [St.get, St.new]
theorem set_new_l (s : St) (o o' : AObj) : (s.new o).set (.l s.own.length) o' = some (s.new o') := by simp [St.set, St.new]
theorem splice_all {α : Type} : ∀ (vs cs : List α), vs.length = cs.length → splice cs 0 vs = vs := by
  intro vs cs h
  apply List.ext_getElem?
  intro j
  rw [splice_get _ _ _ (by omega)]
  split
  · simp
  · rw [List.getElem?_eq_none (by omega), List.getElem?_eq_none (by omega)]
theorem z_stn (n : Nat) (vs cs : List AV) (h1 : vs.length = n) (h2 : cs.length = n) (h3 : vs.all AV.isCell = true) : (PP T G X).store (s.new (.cells cs)) k n (.ref (.l s.own.length) 0) (.agg vs) = k .dead (s.new (.cells vs)) := by
  rw [zz_store]
  unfold storeOp
  simp only [AV.isVal, AV.cells, h1, Nat.beq_refl, Bool.and_self, cond_true]
  unfold storeV
  simp only [get_new_l]
  have e : splice cs 0 vs = vs := splice_all _ _ (by omega)
  have e1 : Nat.ble (0 + vs.length) cs.length = true := Nat.ble_eq_true_of_le (by omega)
  have e2 : (s.new (.cells cs)).takes (.l s.own.length) vs = true := by simp [St.takes, St.isOwn]
  rw [e1, e2, h3]
  simp only [Bool.and_self, cond_true, e]
  show (match (s.new (.cells cs)).set (.l s.own.length) (.cells vs) with | some s => k .dead s | none => .fail) = _
  rw [set_new_l]
theorem z_ldnn (n : Nat) (cs : List AV) (h : n ≤ cs.length) : (PP T G X).load (s.new (.cells cs)) k (some n) (.ref (.l s.own.length) 0) = k (.agg (cs.take n)) (s.new (.cells cs)) := by
  rw [zz_load]
  simp only [loadOp, get_new_l, List.drop_zero, loadV]
  rw [show Nat.ble n cs.length = true from Nat.ble_eq_true_of_le h]
  rfl
theorem z_ldn0 (c0 : AV) (cs : List AV) : (PP T G X).load (s.new (.cells (c0 :: cs))) k none (.ref (.l s.own.length) 0) = k c0 (s.new (.cells (c0 :: cs))) := by
  rw [zz_load]
  simp only [loadOp, get_new_l]
  rfl
theorem z_ldn1 (c0 c1 : AV) (cs : List AV) : (PP T G X).load (s.new (.cells (c0 :: c1 :: cs))) k none (.ref (.l s.own.length) 1) = k c1 (s.new (.cells (c0 :: c1 :: cs))) := by
  rw [zz_load]
  simp only [loadOp, get_new_l]
  rfl
theorem z_ldn2 (c0 c1 c2 : AV) (cs : List AV) : (PP T G X).load (s.new (.cells (c0 :: c1 :: c2 :: cs))) k none (.ref (.l s.own.length) 2) = k c2 (s.new (.cells (c0 :: c1 :: c2 :: cs))) := by
  rw [zz_load]
  simp only [loadOp, get_new_l]
  rfl
theorem z_ldn3 (c0 c1 c2 c3 : AV) (cs : List AV) : (PP T G X).load (s.new (.cells (c0 :: c1 :: c2 :: c3 :: cs))) k none (.ref (.l s.own.length) 3) = k c3 (s.new (.cells (c0 :: c1 :: c2 :: c3 :: cs))) := by
  rw [zz_load]
  simp only [loadOp, get_new_l]
  rfl
theorem z_ldn4 (c0 c1 c2 c3 c4 : AV) (cs : List AV) : (PP T G X).load (s.new (.cells (c0 :: c1 :: c2 :: c3 :: c4 :: cs))) k none (.ref (.l s.own.length) 4) = k c4 (s.new (.cells (c0 :: c1 :: c2 :: c3 :: c4 :: cs))) := by
  rw [zz_load]
  simp only [loadOp, get_new_l]
  rfl
theorem z_ldn5 (c0 c1 c2 c3 c4 c5 : AV) (cs : List AV) : (PP T G X).load (s.new (.cells (c0 :: c1 :: c2 :: c3 :: c4 :: c5 :: cs))) k none (.ref (.l s.own.length) 5) = k c5 (s.new (.cells (c0 :: c1 :: c2 :: c3 :: c4 :: c5 :: cs))) := by
  rw [zz_load]
  simp only [loadOp, get_new_l]
  rfl
theorem z_ldn6 (c0 c1 c2 c3 c4 c5 c6 : AV) (cs : List AV) : (PP T G X).load (s.new (.cells (c0 :: c1 :: c2 :: c3 :: c4 :: c5 :: c6 :: cs))) k none (.ref (.l s.own.length) 6) = k c6 (s.new (.cells (c0 :: c1 :: c2 :: c3 :: c4 :: c5 :: c6 :: cs))) := by
  rw [zz_load]
  simp only [loadOp, get_new_l]
  rfl
theorem z_ldn7 (c0 c1 c2 c3 c4 c5 c6 c7 : AV) (cs : List AV) : (PP T G X).load (s.new (.cells (c0 :: c1 :: c2 :: c3 :: c4 :: c5 :: c6 :: c7 :: cs))) k none (.ref (.l s.own.length) 7) = k c7 (s.new (.cells (c0 :: c1 :: c2 :: c3 :: c4 :: c5 :: c6 :: c7 :: cs))) := by
  rw [zz_load]
  simp only [loadOp, get_new_l]
  rfl
theorem z_ldn8 (c0 c1 c2 c3 c4 c5 c6 c7 c8 : AV) (cs : List AV) : (PP T G X).load (s.new (.cells (c0 :: c1 :: c2 :: c3 :: c4 :: c5 :: c6 :: c7 :: c8 :: cs))) k none (.ref (.l s.own.length) 8) = k c8 (s.new (.cells (c0 :: c1 :: c2 :: c3 :: c4 :: c5 :: c6 :: c7 :: c8 :: cs))) := by
  rw [zz_load]
  simp only [loadOp, get_new_l]
  rfl
/-- A state of a call's frame. -/
structure Child (s S : St) : Prop where
  up : S.up = s.own :: s.up
  ro : S.ro = s.ro
theorem Child.enter (s : St) : Child s s.enter := ⟨rfl, rfl⟩
theorem Child.new {s S : St} (h : Child s S) (o : AObj) : Child s (S.new o) := ⟨h.up, h.ro⟩
theorem z_finC1 {s S : St} (h : Child s S) (v w : AV) (hw : freeze S v = some w) : (PP T G X).fin false [some v] S = .ok w s := by
  obtain ⟨h1, h2⟩ := h
  show hFin false [some v] S = _
  unfold hFin
  simp only [mapO, Option.bind_some, Option.map_some, cond_false, hw, tupV, h1, h2]
theorem z_finC2 {s S : St} (h : Child s S) (v1 v2 w1 w2 : AV) (e1 : freeze S v1 = some w1) (e2 : freeze S v2 = some w2) : (PP T G X).fin false [some v1, some v2] S = .ok (.tup [w1, w2]) s := by
  obtain ⟨h1, h2⟩ := h
  show hFin false [some v1, some v2] S = _
  unfold hFin
  simp only [mapO, Option.bind_some, Option.map_some, cond_false, e1, e2, tupV, h1, h2]
theorem z_finC_int {s S : St} (h : Child s S) (kk : IntKind) (n : Int) : (PP T G X).fin false [some (.int kk n)] S = .ok (.int kk n) s := z_finC1 h _ _ rfl
theorem z_finC_bool {s S : St} (h : Child s S) (b : Bool) : (PP T G X).fin false [some (.bool b)] S = .ok (.bool b) s := z_finC1 h _ _ rfl
theorem pub_agg (d : Nat) (cs : List AV) : AV.pub d (.agg cs) = .agg cs := rfl
theorem pub_int (d : Nat) (kk : IntKind) (n : Int) : AV.pub d (.int kk n) = .int kk n := rfl
theorem pub_bool (d : Nat) (b : Bool) : AV.pub d (.bool b) = .bool b := rfl
theorem pub_str (d : Nat) (b : List Nat) : AV.pub d (.str b) = .str b := rfl
theorem pub_fn (d f : Nat) (cs : List AV) : AV.pub d (.fn f cs) = .fn f cs := rfl
theorem pub_vptr (d : Nat) (cs : List AV) : AV.pub d (.vptr cs) = .vptr cs := rfl
theorem pub_nilp (d : Nat) : AV.pub d .nilp = .nilp := rfl
theorem isCell_int (kk : IntKind) (n : Int) : AV.isCell (.int kk n) = true := rfl
theorem isCell_bool (b : Bool) : AV.isCell (.bool b) = true := rfl
theorem isCell_str (b : List Nat) : AV.isCell (.str b) = true := rfl
theorem isCell_sl (sz : Nat) (es : List AV) (g : Gr) : AV.isCell (.sl sz es g) = true := rfl
theorem ite_okb (p : Prop) [Decidable p] (a b : Bool) (s : St) : (if p then Res.ok (.bool a) s else Res.ok (.bool b) s) = .ok (.bool (if p then a else b)) s := by split <;> rfl
theorem ite_and' (p q : Prop) [Decidable p] [Decidable q] : (if p then decide q else false) = decide (p ∧ q) := by by_cases h : p <;> simp [h]
theorem not_dec (p : Prop) [Decidable p] : ((!decide p) = true) = ¬ p := by simp
theorem pick_tt (a b : AV) : (if True then a else b) = a := rfl
end Go.Ab
end
section
/- What the words come to at slices that grow and slices of the frame's own. -/
namespace Go.Ab
set_option linter.unusedSimpArgs false
variable {T : Nat → Option AFn} {G : Nat → AV} {X : Nat → List AV → St → Res} {s : St} {k : K1}

theorem zz_append (q b : Nat) (at_ : Option Loc) (x y : AV) : (PP T G X).append s k q b at_ x y = appendOp (EV G (callω T G X) loopω) s k q b at_ x y := rfl
theorem z_buildSlice (sz : Nat) (es : List AV) (h1 : AV.reflessL es = true) (h2 : (es.all fun e => e.isVal && Nat.beq e.cells.length sz) = true) : (PP T G X).buildSlice s k sz es = k (.sl sz es .exact) s := by
  show (bif AV.reflessL es && es.all (fun e => e.isVal && Nat.beq e.cells.length sz) then _ else _) = _
  rw [h1, h2]; rfl
theorem z_quo2 (kk : IntKind) (a : Int) : (PP T G X).val s k (binV .quo (.int kk a) (.int kk 2)) = k (.int kk (kk.wrap (a.tdiv 2))) s := by rw [b_quo _ _ _ (by omega)]; rfl
theorem z_bs_int (kk : IntKind) (n : Int) : (PP T G X).buildSlice s k 1 [.int kk n] = k (.sl 1 [.int kk n] .exact) s := rfl
theorem z_bs_str (b : List Nat) : (PP T G X).buildSlice s k 1 [.str b] = k (.sl 1 [.str b] .exact) s := rfl
theorem z_max2 (kk : IntKind) (a b : Int) : (PP T G X).fold s k max2 [.int kk a, .int kk b] = k (.int kk (if b > a then b else a)) s := rfl
theorem z_min2 (kk : IntKind) (a b : Int) : (PP T G X).fold s k min2 [.int kk a, .int kk b] = k (.int kk (if b < a then b else a)) s := rfl

/-- How a slice that is appended to lies in the frame. -/
inductive Grow (S : St) : Gr → Nat → Prop
  | nil : Grow S .nil 0
  | buf (j n : Nat) (hn : 0 < n) (h : S.own[j]? = some (.tok n)) : Grow S (.buf (.l j)) n
theorem Grow.inv {S : St} {g : Gr} {n : Nat} (h : Grow S g n) : (g = .nil ∧ n = 0) ∨ ∃ j, g = .buf (.l j) ∧ 0 < n ∧ S.own[j]? = some (.tok n) := by
  cases h with
  | nil => exact .inl ⟨rfl, rfl⟩
  | buf j n hn h => exact .inr ⟨j, rfl, hn, h⟩
theorem Grow.new {S : St} {g : Gr} {n : Nat} (h : Grow S g n) (o : AObj) : Grow (S.new o) g n := by
  cases h with
  | nil => exact .nil
  | buf j n hn h =>
    refine .buf j n hn ?_
    have hj := (List.getElem?_eq_some_iff.1 h).1
    simp only [St.new]
    rw [List.getElem?_append_left hj]
    exact h
/-- The frame behind an append: what else is there stays. -/
structure Grown (S S' : St) (g : Gr) : Prop where
  up : S'.up = S.up
  ro : S'.ro = S.ro
  len : S.own.length ≤ S'.own.length
  own : ∀ j o, S.own[j]? = some o → g ≠ .buf (.l j) → S'.own[j]? = some o
theorem Grown.child {s S S' : St} {g : Gr} (h : Grown S S' g) (hS : Child s S) : Child s S' := ⟨h.up.trans hS.up, h.ro.trans hS.ro⟩
theorem Grown.grow {S S' : St} {g g' : Gr} {n : Nat} (h : Grown S S' g) (hg : Grow S g' n) (hne : ∀ j, g' = .buf (.l j) → g ≠ .buf (.l j)) : Grow S' g' n := by
  cases hg with
  | nil => exact .nil
  | buf j n hn e => exact .buf j n hn (h.own j _ e (hne j rfl))
theorem Grown.depth {S S' : St} {g : Gr} (h : Grown S S' g) : S'.depth = S.depth := by simp [St.depth, h.up, h.ro]

theorem z_append {R : Res} {S : St} {es new : List AV} {g g2 : Gr} {q bytes : Nat} (hg : Grow S g es.length) (hn : new ≠ []) (hb : (es.length + new.length) * bytes ≤ 1099511627776) (hc : (new.flatMap AV.cells).all AV.isCell = true)
    (hk : ∀ g' S', Grow S' g' (es.length + new.length) → g' ≠ .nil → (g ≠ .nil → g' = g) → (g = .nil → g' = .buf (.l S.own.length)) → Grown S S' g → k (.sl q (es ++ new) g') S' = R) (hg2 : ∀ a, g2 ≠ .buf a := by intro a h; cases h) :
    (PP T G X).append S k q bytes (some (.l 0)) (.sl q es g) (.sl q new g2) = R := by
  rw [zz_append]
  unfold appendOp
  simp only
  unfold appendV
  rw [show elemsOf S (.sl q new g2) = some (q, new) from by cases g2 <;> first | rfl | exact absurd rfl (hg2 _)]
  simp only [Nat.beq_refl, Bool.true_and]
  rw [show Nat.ble ((es.length + new.length) * bytes) 1099511627776 = true from Nat.ble_eq_true_of_le hb]
  simp only [cond_true]
  cases new with
  | nil => exact absurd rfl hn
  | cons c cs =>
    rcases hg.inv with ⟨rfl, hes⟩ | ⟨j, rfl, hpos, h⟩
    · simp only [St.newBy]
      refine hk _ _ (.buf _ _ (by simp; omega) ?_) (by simp) (fun h => absurd rfl h) (fun _ => rfl) ⟨rfl, rfl, by simp [St.new], fun j o h _ => ?_⟩
      · simp [St.new]
      · simp only [St.new]
        rw [List.getElem?_append_left (List.getElem?_eq_some_iff.1 h).1]
        exact h
    · have e : S.get (.l j) = some (.tok es.length) := h
      simp only [e, Nat.beq_refl, hc, Bool.and_self, cond_true]
      show (match S.set (.l j) (.tok (es.length + (c :: cs).length)) with | some s => k (.sl q (es ++ c :: cs) (.buf (.l j))) s | none => .fail) = R
      simp only [St.set]
      refine hk _ _ (.buf _ _ (by simp; omega) ?_) (by simp) (fun _ => rfl) (fun h => by simp at h) ⟨rfl, rfl, by simp, fun i o hi hne => ?_⟩
      · simp [(List.getElem?_eq_some_iff.1 h).1]
      · have : j ≠ i := fun e => hne (by rw [e])
        simp only
        rw [List.getElem?_set_ne this]
        exact hi
/-- What is known of a slice that is handed back. -/
def gfin {α : Type} (l : List α) : Gr := if l.isEmpty then .nil else .any
theorem freeze_grow {S : St} {sz : Nat} {es : List AV} {g : Gr} (hg : Grow S g es.length) (hr : AV.reflessL es = true := by rfl) : freeze S (.sl sz es g) = some (.sl sz es (gfin es)) := by
  rcases hg.inv with ⟨rfl, h⟩ | ⟨j, rfl, hn, h⟩
  · have : es = [] := List.eq_nil_of_length_eq_zero h
    subst this; rfl
  · cases es with
    | nil => simp at hn
    | cons e es =>
      show (if AV.reflessL (e :: es) = true then some (AV.sl sz (e :: es) .any) else none) = _
      rw [if_pos hr]
      rfl

/-! A slice of the frame's own. -/
theorem z_idx_msl {S : St} (a : Loc) (off len cap sz : Nat) (kk : IntKind) (i : Nat) (h : i < len) : (PP T G X).idx S k sz (.msl a off len cap sz) (.int kk (i : Int)) = k (.ref a (off + i * sz)) S := by
  show idxV (EV G (callω T G X) loopω) S k sz (.msl a off len cap sz) (.int kk (i : Int)) = _
  unfold idxV
  rw [asNat_nat]
  simp only [Nat.beq_refl, show Nat.blt i len = true from by simp [Nat.blt_eq, h], Bool.and_self, cond_true]
  rfl
theorem z_ld_own {S : St} {j o : Nat} {cs : List AV} {c : AV} (h : S.own[j]? = some (.cells cs)) (hc : cs[o]? = some c) : (PP T G X).load S k none (.ref (.l j) o) = k c S := by
  rw [zz_load]
  simp only [loadOp]
  rw [show S.get (.l j) = some (.cells cs) from h]
  simp only [loadV]
  have : cs.drop o = c :: cs.drop (o + 1) := by
    have ho := (List.getElem?_eq_some_iff.1 hc)
    rw [List.drop_eq_getElem_cons ho.1, ho.2]
  rw [this]
  rfl
theorem z_append_msl {S : St} {j len cap bytes : Nat} {cs : List AV} {e : AV} {g2 : Gr} (h : S.own[j]? = some (.cells cs)) (hl : len < cap) (hc : cs.length = cap) (he : e.isCell = true) (hr : e.cells = [e]) (hg2 : ∀ a, g2 ≠ .buf a := by intro a h; cases h) :
    (PP T G X).append S k 1 bytes (some (.l 0)) (.msl (.l j) 0 len cap 1) (.sl 1 [e] g2) = k (.msl (.l j) 0 (len + 1) cap 1) { S with own := S.own.set j (.cells (cs.set len e)) } := by
  rw [zz_append]
  unfold appendOp
  simp only
  unfold appendV
  rw [show elemsOf S (.sl 1 [e] g2) = some (1, [e]) from by cases g2 <;> first | rfl | exact absurd rfl (hg2 _)]
  simp only [List.length_cons, List.length_nil, Nat.zero_add, Nat.mul_one]
  rw [show S.get (.l j) = some (.cells cs) from h]
  simp only [List.flatMap_cons, List.flatMap_nil, hr, List.append_nil, List.all_cons, he, List.all_nil, Nat.beq_refl, show Nat.ble (len + 1) cap = true from Nat.ble_eq_true_of_le hl, show Nat.ble (len + 1) cs.length = true from Nat.ble_eq_true_of_le (by omega), Bool.and_self, Bool.true_and, Bool.and_true,
    show S.takes (.l j) [e] = true from by simp [St.takes, St.isOwn], cond_true]
  rfl
theorem flat_rep (z : AV) : ∀ c : Nat, (List.replicate c [z]).flatten = List.replicate c z
  | 0 => rfl
  | c + 1 => by simp [List.replicate_succ, flat_rep z c]
theorem z_make (z : AV) (bytes l c : Nat) (h1 : l ≤ c) (h2 : c * bytes ≤ 1099511627776) : (PP T G X).make s k [z] bytes (.int .i64 (l : Int)) (.int .i64 (c : Int)) = k (.msl (.l s.own.length) 0 l c 1) (s.new (.cells (List.replicate c z))) := by
  show makeV (EV G (callω T G X) loopω) s k [z] bytes (.int .i64 (l : Int)) (.int .i64 (c : Int)) = _
  unfold makeV
  rw [asNat_nat, asNat_nat]
  simp only [show Nat.ble l c = true from Nat.ble_eq_true_of_le h1, show Nat.ble (c * bytes) 1099511627776 = true from Nat.ble_eq_true_of_le h2, Bool.and_self, cond_true]
  show k _ (s.new (.cells (List.replicate c [z]).flatten)) = _
  rw [flat_rep]
  rfl
theorem chunk_one : ∀ (l : List AV), (∀ e, e ∈ l → e.cells = [e]) → chunk 1 l.length l = l
  | [], _ => rfl
  | c :: l, h => by
    simp only [List.length_cons, chunk, chunkHd, List.drop_succ_cons, List.drop_zero]
    rw [chunk_one l (fun e he => h e (by simp [he]))]
    have := h c (by simp)
    congr 1
    show chunk1 c = c
    cases c with
    | agg xs =>
      exfalso
      have h2 : xs = [AV.agg xs] := this
      have h3 := congrArg (SizeOf.sizeOf : List AV → Nat) h2
      simp only [List.cons.sizeOf_spec, List.nil.sizeOf_spec, AV.agg.sizeOf_spec] at h3
      omega
    | _ => rfl
theorem freeze_msl {S : St} {j n : Nat} {cs : List AV} (h : S.own[j]? = some (.cells cs)) (hc : cs.length = n) (hr : AV.reflessL cs = true) (h1 : ∀ e, e ∈ cs → e.cells = [e]) : freeze S (.msl (.l j) 0 n n 1) = some (.sl 1 cs .exact) := by
  show freezeOwn S j 0 n n 1 = _
  unfold freezeOwn
  rw [h]
  subst hc
  simp only [List.drop_zero, chunk_one cs h1, hr, Nat.zero_add, Nat.mul_one, show Nat.ble cs.length cs.length = true from Nat.ble_eq_true_of_le (Nat.le_refl _), Bool.true_and, if_pos rfl]
  rfl
end Go.Ab
end
