/- The evaluator over words that are not looked into: so a function's code is printed without its frame. -/
import Derived.Test.YtnafklimohmfkaaDoorH
namespace Go.Ab
set_option linter.unusedVariables false

abbrev K1 := AV → St → Res
/-- The words of an operation. -/
structure Zenv where
  glob : Nat → AV
  loop : SS → Mk → SS
  mask : Mk → ACode → SS
  fin : Bool → List (Option AV) → St → Res
  ret : AV → St → K1 → Res
  pick : St → K1 → AV → AV → AV → Res
  boxRo : AV → St → K1 → Res
  boxMut : AV → St → K1 → Res
  build : List AV → List (Nat × Nat × AV) → St → K1 → Res
  buildSlice : St → K1 → Nat → List AV → Res
  moveF : St → K1 → AV → Res
  load : St → K1 → Option Nat → AV → Res
  store : St → K1 → Nat → AV → AV → Res
  nilCheck : St → K1 → AV → Res
  val : St → K1 → Option AV → Res
  convInt : St → K1 → IntKind → AV → Res
  convId : St → K1 → AV → Res
  bytesToStr : St → K1 → AV → Res
  strToBytes : St → K1 → AV → Res
  make : St → K1 → List AV → Nat → AV → AV → Res
  sub : AV → Option AV → Option AV → St → K1 → Res
  slice : Nat → AV → Option AV → Option AV → Option AV → St → K1 → Res
  fieldAddr : St → K1 → Nat → AV → Res
  field : St → K1 → Nat → Option Nat → AV → Res
  idx : St → K1 → Nat → AV → AV → Res
  idxArr : St → K1 → Nat → Nat → AV → AV → Res
  idxStr : St → K1 → AV → AV → Res
  idxAgg : St → K1 → Nat → Nat → Option Nat → AV → AV → Res
  extract : St → K1 → Nat → AV → Res
  call : St → K1 → Nat → List AV → Res
  callF : St → K1 → AV → List AV → Res
  callP : St → K1 → Nat → List AV → Res
  callFP : St → K1 → AV → List AV → Res
  callC : St → K1 → List (Option Nat × AV) → Nat → List AV → Res
  callFC : St → K1 → List (Option Nat × AV) → AV → List AV → Res
  len : St → K1 → Bool → AV → Res
  append : St → K1 → Nat → Nat → Option Loc → AV → AV → Res
  copy : St → K1 → Nat → AV → AV → Res
  fold : St → K1 → (AV → AV → Option AV) → List AV → Res
  makeMap : St → K1 → Option Loc → Res
  mapPut : St → K1 → KD → AV → AV → AV → Res
  lookup : St → K1 → KD → AV → Bool → AV → AV → Res
  guard : AV → Bool → (K1 → Res) → St → K1 → Res
  cond : AV → Res → Res → Res

def optOpd (G : Nat → AV) (fr : Nat → AV) : Option AOpd → Option AV
  | none => none
  | some x => some (opnd G fr x)
def atOpd (G : Nat → AV) (fr : Nat → AV) : Option AOpd → Option Loc
  | none => some (.l 0)
  | some x => hAt (opnd G fr x)
def partsOf (G : Nat → AV) (fr : Nat → AV) : List (Nat × Nat × AOpd) → List (Nat × Nat × AV)
  | [] => []
  | (off, sz, x) :: ps => (off, sz, opnd G fr x) :: partsOf G fr ps

def stepP (P : Zenv) (fr : Nat → AV) (s : St) (k : K1) (op : AOp) : Res :=
  match op with
  | .move x => k (opnd P.glob fr x) s
  | .pick c a b => P.pick s k (opnd P.glob fr c) (opnd P.glob fr a) (opnd P.glob fr b)
  | .alloc zero => P.ret (.ref (.l s.own.length) 0) (s.new (.cells zero)) k
  | .boxRo x => P.boxRo (opnd P.glob fr x) s k
  | .boxMut x => P.boxMut (opnd P.glob fr x) s k
  | .build zero parts => P.build zero (partsOf P.glob fr parts) s k
  | .buildSlice sz parts => P.buildSlice s k sz (parts.map (opnd P.glob fr))
  | .moveF x => P.moveF s k (opnd P.glob fr x)
  | .load n a => P.load s k n (opnd P.glob fr a)
  | .store n a v => P.store s k n (opnd P.glob fr a) ((opnd P.glob fr v).pub s.depth)
  | .nilCheck x => P.nilCheck s k (opnd P.glob fr x)
  | .bin op x y => P.val s k (binV op (opnd P.glob fr x) (opnd P.glob fr y))
  | .eq neg e x y => P.val s k ((eqV e (opnd P.glob fr x) (opnd P.glob fr y)).map fun b => .bool (bif neg then !b else b))
  | .un op x => P.val s k (unV op (opnd P.glob fr x))
  | .convInt d x => P.convInt s k d (opnd P.glob fr x)
  | .convId x => P.convId s k (opnd P.glob fr x)
  | .bytesToStr x => P.bytesToStr s k (opnd P.glob fr x)
  | .strToBytes x => P.strToBytes s k (opnd P.glob fr x)
  | .mkIface t x => P.ret (.iface t ((opnd P.glob fr x).pub s.depth)) s k
  | .mkFunc f caps => P.ret (.fn f (caps.map fun x => (opnd P.glob fr x).pub s.depth)) s k
  | .makeSlice zero bytes l c => P.make s k zero bytes (opnd P.glob fr l) (opnd P.glob fr c)
  | .subStr x lo hi => P.sub (opnd P.glob fr x) (optOpd P.glob fr lo) (optOpd P.glob fr hi) s k
  | .slice z x lo hi mx => P.slice z (opnd P.glob fr x) (optOpd P.glob fr lo) (optOpd P.glob fr hi) (optOpd P.glob fr mx) s k
  | .fieldAddr off a => P.fieldAddr s k off (opnd P.glob fr a)
  | .field off n x => P.field s k off n (opnd P.glob fr x)
  | .idxSl sz x i => P.idx s k sz (opnd P.glob fr x) (opnd P.glob fr i)
  | .idxArr sz len x i => P.idxArr s k sz len (opnd P.glob fr x) (opnd P.glob fr i)
  | .idxStr x i => P.idxStr s k (opnd P.glob fr x) (opnd P.glob fr i)
  | .idxAgg sz len n x i => P.idxAgg s k sz len n (opnd P.glob fr x) (opnd P.glob fr i)
  | .extract x i => P.extract s k i (opnd P.glob fr x)
  | .call f args => P.call s k f (args.map fun x => (opnd P.glob fr x).pub s.depth)
  | .callV f args => P.callF s k (opnd P.glob fr f) (args.map fun x => (opnd P.glob fr x).pub s.depth)
  | .callP f args => P.callP s k f (args.map fun x => (opnd P.glob fr x).pub s.depth)
  | .callVP f args => P.callFP s k (opnd P.glob fr f) (args.map fun x => (opnd P.glob fr x).pub s.depth)
  | .callC ks f args => P.callC s k (ks.map fun x => (x.1, opnd P.glob fr x.2)) f (args.map fun x => (opnd P.glob fr x).pub s.depth)
  | .callVC ks f args => P.callFC s k (ks.map fun x => (x.1, opnd P.glob fr x.2)) (opnd P.glob fr f) (args.map fun x => (opnd P.glob fr x).pub s.depth)
  | .len b x => P.len s k b (opnd P.glob fr x)
  | .append q bytes b x y => P.append s k q bytes (atOpd P.glob fr b) (opnd P.glob fr x) (opnd P.glob fr y)
  | .copy q d x => P.copy s k q (opnd P.glob fr d) (opnd P.glob fr x)
  | .min xs => P.fold s k min2 (xs.map fun x => (opnd P.glob fr x).pub s.depth)
  | .max xs => P.fold s k max2 (xs.map fun x => (opnd P.glob fr x).pub s.depth)
  | .makeMap b => P.makeMap s k (atOpd P.glob fr b)
  | .mapPut kd m x v => P.mapPut s k kd (opnd P.glob fr m) ((opnd P.glob fr x).pub s.depth) ((opnd P.glob fr v).pub s.depth)
  | .lookup kd zero ok m x => P.lookup s k kd zero ok (opnd P.glob fr m) ((opnd P.glob fr x).pub s.depth)
  | .nilI neg x => P.val s k (nilIV neg (opnd P.glob fr x))
  | .no => .fail

def runOpsP (P : Zenv) : List AOper → Tr → St → (Tr → St → Res) → Res
  | [], fr, s, fin => fin fr s
  | o :: os, fr, s, fin =>
    match o.guard with
    | none => stepP P fr.get s (fun v s => putK fr o.dst v fun fr => runOpsP P os fr s fin) o.op
    | some (t, want) => P.guard (fr.get t) want (fun k => stepP P fr.get s k o.op) s (fun v s => putK fr o.dst v fun fr => runOpsP P os fr s fin)
def execP (P : Zenv) : ACode → SS
  | .skip, fr, s, k => k .norm fr s
  | .region none ops, fr, s, k => runOpsP P ops fr s (fun fr s => k .norm fr s)
  | .region (some []) ops, fr, s, k => runOpsP P ops fr s (fun fr s => k .norm fr s)
  | .region (some (_ :: _)) _, _, _, _ => .fail
  | .seq a b, fr, s, k => execP P a fr s (seqK (execP P b) k)
  | .mask m a, fr, s, k => P.mask m a (Tr.mask m fr) s k
  | .cond c a b, fr, s, k => P.cond (opnd P.glob fr.get c) (execP P a fr s k) (execP P b fr s k)
  | .block id c, fr, s, k => execP P c fr s (blockK id k)
  | .loop keep c, fr, s, k => P.loop (execP P c) keep (Tr.mask keep fr) s k
  | .exit id, fr, s, k => k (.exit id) fr s
  | .scope c, fr, s, k => execP P c fr s k
  | .ret, fr, s, k => k .ret fr s
def resP (fr : Tr) (s : St) : ARes → Option AV
  | .t n => some (fr.get n)
  | .cell a n => hCell s (fr.get a) n
def finP (P : Zenv) (fn : AFn) : KK := fun x fr s =>
  match x with
  | .norm => P.fin fn.keep (fn.results.map (resP fr s)) s
  | .ret => P.fin fn.keep (fn.results.map (resP fr s)) s
  | _ => .fail

/-- No region asks for what lies apart. -/
def okChk : ACode → Bool
  | .region (some (_ :: _)) _ => false
  | .seq a b | .cond _ a b => okChk a && okChk b
  | .mask _ a | .block _ a | .loop _ a | .scope a => okChk a
  | _ => true

/-- The words themselves. -/
noncomputable def realP (G : Nat → AV) (c : Nat → List AV → St → Res) : Zenv where
  glob := G
  loop := loopω
  mask := fun _ a fr s k => exec (EV G c loopω) a fr s k
  fin := hFin
  ret := fun v s k => k v s
  pick := fun s k c' a b => pickV (EV G c loopω) s k c' a b
  boxRo := hBoxRo
  boxMut := hBoxMut
  build := hBuild
  buildSlice := fun s k sz es => buildSliceV (EV G c loopω) s k sz es
  moveF := fun s k v => moveFV (EV G c loopω) s k v
  load := fun s k n v => loadOp (EV G c loopω) s k n v
  store := fun s k n a v => storeOp (EV G c loopω) s k n a v
  nilCheck := fun s k v => nilCheckV (EV G c loopω) s k v
  val := fun s k v => oV (EV G c loopω) s k v
  convInt := fun s k d v => convIntV (EV G c loopω) s k d v
  convId := fun s k v => convIdV s k v
  bytesToStr := fun s k v => bytesToStrV (EV G c loopω) s k v
  strToBytes := fun s k v => strToBytesV (EV G c loopω) s k v
  make := fun s k z b l c' => makeV (EV G c loopω) s k z b l c'
  sub := hSub
  slice := hSlice
  fieldAddr := fun s k off v => fieldAddrV (EV G c loopω) s k off v
  field := fun s k off n v => fieldV (EV G c loopω) s k off n v
  idx := fun s k sz x i => idxV (EV G c loopω) s k sz x i
  idxArr := fun s k sz len x i => idxArrV (EV G c loopω) s k sz len x i
  idxStr := fun s k x i => idxStrV (EV G c loopω) s k x i
  idxAgg := fun s k sz len n x i => idxAggV (EV G c loopω) s k sz len n x i
  extract := fun s k i v => extractV (EV G c loopω) s k i v
  call := fun s k f args => callV (EV G c loopω) s k (fun _ _ => .fail) f args
  callF := fun s k f args => callFV (EV G c loopω) s k (fun _ _ => .fail) f args
  callP := fun s k f args => callPV (EV G c loopω) s k f args
  callFP := fun s k f args => callFPV (EV G c loopω) s k f args
  callC := fun s k ks f args => callCV (EV G c loopω) s k (fun _ _ => .fail) ks f args
  callFC := fun s k ks f args => callFCV (EV G c loopω) s k (fun _ _ => .fail) ks f args
  len := fun s k b v => lenV (EV G c loopω) s k b v
  append := fun s k q bytes b x y => appendOp (EV G c loopω) s k q bytes b x y
  copy := fun s k q d x => copyOp (EV G c loopω) s k q d x
  fold := fun s k f xs => foldOp (EV G c loopω) s k f xs
  makeMap := fun s k b => makeMapV (EV G c loopω) s k b
  mapPut := fun s k kd m x v => mapPutV (EV G c loopω) s k kd m x v
  lookup := fun s k kd z ok m x => lookupV (EV G c loopω) s k kd z ok m x
  guard := hGuard
  cond := hCond

section
variable (G : Nat → AV) (c : Nat → List AV → St → Res)
theorem hFill_eq (d : Nat) (fr : Nat → AV) : ∀ (ps : List (Nat × Nat × AOpd)) (cs : List AV), hFill d cs (partsOf G fr ps) = fillParts G d fr cs ps
  | [], cs => rfl
  | (off, sz, x) :: ps, cs => by
    simp only [partsOf, hFill, fillParts]
    rw [hFill_eq d fr ps]
theorem atOpd_eq (fr : Nat → AV) (b : Option AOpd) : atOpd G fr b = atLoc G fr b := by
  cases b <;> rfl
theorem hBd_eq (fr : Nat → AV) (o : Option AOpd) (d : Nat) : hBd (optOpd G fr o) d = bound G fr o d := by
  cases o <;> rfl
theorem stepP_real (fr : Nat → AV) (s : St) (k : K1) (op : AOp) : stepP (realP G c) fr s k op = stepOp (EV G c loopω) fr s k (fun _ _ => .fail) op := by
  cases op <;> try rfl
  case build zero parts =>
    simp only [stepP, stepOp, realP, hBuild, hFill_eq, oV]
    show _ = match (fillParts G s.depth fr zero parts).map .agg with | some v => k v s | none => .fail
    cases fillParts G s.depth fr zero parts <;> rfl
  case subStr x lo hi =>
    simp only [stepP, stepOp, realP, hSub, subStrV, hBd_eq]
    rfl
  case slice z x lo hi mx =>
    simp only [stepP, stepOp, realP, hSlice, sliceV, hBd_eq]
    show _ = sliceV (EV G c loopω) fr s k z (opnd G fr x) lo hi mx
    unfold sliceV
    cases opnd G fr x <;> try rfl
    cases mx <;> rfl
theorem runOpsP_real : ∀ (os : List AOper) (fr : Tr) (s : St) (fin : Tr → St → Res), runOpsP (realP G c) os fr s fin = runOps (EV G c loopω) os fr s fin (fun _ _ _ => .fail)
  | [], fr, s, fin => rfl
  | o :: os, fr, s, fin => by
    simp only [runOpsP, runOps]
    have key : (fun (v : AV) (s : St) => putK fr o.dst v fun fr => runOpsP (realP G c) os fr s fin) = fun v s => putK fr o.dst v fun fr => runOps (EV G c loopω) os fr s fin (fun _ _ _ => .fail) := by
      funext v s
      congr 1
      funext fr
      exact runOpsP_real os fr s fin
    cases hg : o.guard with
    | none =>
      simp only [wantedK, cond_true]
      rw [key, stepP_real]
    | some p =>
      obtain ⟨t, want⟩ := p
      simp only [wantedK, key, stepP_real]
      rw [show (realP G c).guard = hGuard from rfl]
      unfold hGuard
      cases fr.get t <;> rfl
theorem execP_real : ∀ (code : ACode), okChk code = true → execP (realP G c) code = exec (EV G c loopω) code := by
  intro code
  induction code with
  | skip => intro _; rfl
  | region chk ops =>
    intro h
    cases chk with
    | none => funext fr s k; exact runOpsP_real G c ops fr s _
    | some chk =>
      cases chk with
      | nil => funext fr s k; simp only [execP, exec, List.all_nil, cond_true]; exact runOpsP_real G c ops fr s _
      | cons _ _ => simp [okChk] at h
  | seq a b iha ihb =>
    intro h
    simp only [okChk, Bool.and_eq_true] at h
    funext fr s k
    simp only [execP, exec, iha h.1, ihb h.2]
  | mask m a ih => intro h; funext fr s k; simp only [execP, exec, maskK_eq]; rfl
  | cond x a b iha ihb =>
    intro h
    simp only [okChk, Bool.and_eq_true] at h
    funext fr s k
    simp only [execP, exec, iha h.1, ihb h.2]
    rfl
  | block id a ih => intro h; funext fr s k; simp only [execP, exec, ih h]
  | loop keep a ih => intro h; funext fr s k; simp only [execP, exec, ih h, maskK_eq]; rfl
  | exit id => intro _; rfl
  | scope a ih => intro h; funext fr s k; simp only [execP, exec, ih h]
  | ret => intro _; rfl
theorem mapO_map {α β γ : Type} (f : β → Option γ) (g : α → β) : ∀ l : List α, mapO f (l.map g) = mapO (fun x => f (g x)) l
  | [] => rfl
  | x :: l => by simp only [List.map_cons, mapO, mapO_map f g l]
theorem finP_real (fn : AFn) : finP (realP G c) fn = finK .not fn := by
  have key : ∀ fr s, hFin fn.keep (fn.results.map (resP fr s)) s = finish .not fn fr s := fun fr s => by
    unfold hFin finish
    rw [mapO_map, show (fun x => resP fr s x) = resV fr s from by funext x; cases x <;> rfl]
    cases mapO (resV fr s) fn.results with
    | none => rfl
    | some vs => cases fn.keep <;> rfl
  funext x fr s
  cases x with
  | norm => exact key fr s
  | ret => exact key fr s
  | _ => rfl
end

/-- What is asked of the words: a piece of code by name is the code, and a loop is its first round and the rest. -/
structure Zenv.OK (Z : Zenv) : Prop where
  m : ∀ m a fr s k, okChk a = true → Z.mask m a fr s k = execP Z a fr s k
  l : ∀ c keep fr s k, okChk c = true → Z.loop (execP Z c) keep fr s k = execP Z c fr s (joinK keep (Z.loop (execP Z c) keep) k)

section
variable (T : Nat → Option AFn) (G : Nat → AV) (X : Nat → List AV → St → Res)
/-- The words, with the table's calls. -/
noncomputable def PP : Zenv := realP G (callω T G X)
theorem PP_ok : (PP T G X).OK := by
  refine ⟨fun m a fr s k h => ?_, fun c keep fr s k h => ?_⟩
  · unfold PP
    rw [execP_real G _ a h]
    rfl
  · unfold PP
    rw [execP_real G _ c h]
    exact loopω_succ c keep fr s k
theorem callω_P {f : Nat} {fn : AFn} {args : List AV} {s : St} (hT : T f = some fn) (hn : Nat.beq args.length fn.np = true) (hc : okChk fn.body = true) :
    callω T G X f args s = setArgs args 0 .e fun fr => execP (PP T G X) fn.body fr (bif fn.keep then s else s.enter) (finP (PP T G X) fn) := by
  rw [callω_body]
  unfold body
  rw [hT]
  simp only [hn, cond_true, PP, execP_real G _ fn.body hc, finP_real]
  congr
  funext fr
  cases fn.keep <;> rfl
end
end Go.Ab
