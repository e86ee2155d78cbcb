/- What follows an operation does not touch what it does. -/
import Derived.Test.YtnafklimohmfkaaDoorAbs
namespace Go.Ab
set_option linter.unusedSimpArgs false
set_option linter.unusedSectionVars false
set_option linter.unusedVariables false

def Res.bind (r : Res) (k kp : AV → St → Res) : Res :=
  match r with
  | .ok v s => k v s
  | .panic v s => kp v s
  | .fail => .fail

section
variable {E : Env} (hE : E.F = .not) (fr : Nat → AV) (s : St) (k kp : AV → St → Res)
include hE

theorem cond_bind (b : Bool) (r : Res) : (bif b then Res.bind r k kp else .fail) = Res.bind (bif b then r else .fail) k kp := by cases b <;> rfl
theorem oV_bind (v : Option AV) : oV E s k v = Res.bind (oV E s .ok v) k kp := by cases v <;> simp [oV, hE, Force.not, Res.bind]
theorem loadV_bind (m : Option Nat) (cs : List AV) : loadV E s k m cs = Res.bind (loadV E s .ok m cs) k kp := by
  cases m <;> simp only [loadV, hE, Force.not]
  · cases cs <;> rfl
  · cases Nat.ble _ _ <;> rfl
theorem storeV_bind (a : Loc) (off : Nat) (vs : List AV) : storeV E s k a off vs = Res.bind (storeV E s .ok a off vs) k kp := by
  simp only [storeV, hE, Force.not]
  cases s.get a with
  | none => rfl
  | some o =>
    cases o <;> try rfl
    simp only
    cases (_ && _ : Bool) <;> try rfl
    simp only [cond_true]
    cases s.set a _ <;> rfl
theorem subStrV_bind (x : AV) (lo hi : Option AOpd) : subStrV E fr s k x lo hi = Res.bind (subStrV E fr s .ok x lo hi) k kp := by
  cases x <;> simp only [subStrV, hE, Force.not] <;> try rfl
  cases bound E.glob fr lo 0 <;> try rfl
  cases bound E.glob fr hi _ <;> try rfl
  simp only
  cases (_ && _ : Bool) <;> rfl
theorem sliceV_bind (z : Nat) (x : AV) (lo hi mx : Option AOpd) : sliceV E fr s k z x lo hi mx = Res.bind (sliceV E fr s .ok z x lo hi mx) k kp := by
  cases x <;> simp only [sliceV, hE, Force.not] <;> try rfl
  · cases bound E.glob fr lo 0 <;> try rfl
    cases bound E.glob fr hi _ <;> try rfl
    cases mx with
    | none => simp only; cases (_ && _ : Bool) <;> rfl
    | some x =>
      simp only
      rename_i g _ _
      cases asNat (opnd E.glob fr x) <;> cases g <;> try rfl
      all_goals simp only; cases (_ && _ : Bool) <;> rfl
  · cases bound E.glob fr lo 0 <;> try rfl
    cases bound E.glob fr hi _ <;> try rfl
    cases bound E.glob fr mx _ <;> try rfl
    simp only; cases (_ && _ : Bool) <;> rfl
theorem appendV_bind (q bytes : Nat) (b : Loc) (x y : AV) : appendV E s k q bytes b x y = Res.bind (appendV E s .ok q bytes b x y) k kp := by
  simp only [appendV, hE, Force.not]
  cases elemsOf s y with
  | none => rfl
  | some p =>
    obtain ⟨z, new⟩ := p
    cases x <;> try rfl
    · rename_i sz es g
      simp only
      cases (_ && _ : Bool) <;> try rfl
      simp only [cond_true]
      cases new <;> try rfl
      cases g <;> try rfl
      · simp only
        cases s.newBy b _ <;> rfl
      · simp only
        cases s.newBy b _ <;> rfl
      rename_i a
      simp only
      cases s.get a <;> try rfl
      rename_i o
      cases o <;> try rfl
      simp only
      cases (_ && _ : Bool) <;> try rfl
      simp only [cond_true]
      cases s.set a _ <;> rfl
    · rename_i a off len cap sz
      simp only
      cases s.get a <;> try rfl
      rename_i o
      cases o <;> try rfl
      simp only
      cases (_ && _ : Bool) <;> try rfl
      simp only [cond_true]
      cases s.set a _ <;> rfl
theorem mapPutV_bind (kd : KD) (m x v : AV) : mapPutV E s k kd m x v = Res.bind (mapPutV E s .ok kd m x v) k kp := by
  cases m <;> simp only [mapPutV, hE, Force.not] <;> try rfl
  cases s.get _ <;> try rfl
  rename_i o
  cases o <;> try rfl
  simp only
  cases (_ && _ : Bool) <;> try rfl
  simp only [cond_true]
  cases putKey x v _ <;> try rfl
  simp only
  cases s.set _ _ <;> rfl
theorem lookupV_bind (kd : KD) (z : AV) (ok : Bool) (m x : AV) : lookupV E s k kd z ok m x = Res.bind (lookupV E s .ok kd z ok m x) k kp := by
  simp only [lookupV, hE, Force.not]
  cases isKey kd x <;> try rfl
  simp only [cond_true]
  cases entriesOf s m <;> try rfl
  simp only
  cases findKey x _ <;> try rfl
  rename_i o
  cases o <;> rfl
theorem idxV_bind (sz : Nat) (x i : AV) : idxV E s k sz x i = Res.bind (idxV E s .ok sz x i) k kp := by
  simp only [idxV, hE, Force.not]
  cases asNat i <;> try rfl
  cases x <;> try rfl
  · simp only
    cases Nat.beq _ _ <;> try rfl
    simp only [cond_true]
    rename_i es _
    split <;> rfl
  · simp only
    cases (_ && _ : Bool) <;> rfl
theorem idxArrV_bind (sz len : Nat) (x i : AV) : idxArrV E s k sz len x i = Res.bind (idxArrV E s .ok sz len x i) k kp := by
  simp only [idxArrV, hE, Force.not]
  cases asNat i <;> try rfl
  simp only
  cases Nat.blt _ _ <;> try rfl
  cases x <;> rfl
theorem callV_bind (f : Nat) (args : List AV) : callV E s k kp f args = Res.bind (callV E s .ok .panic f args) k kp := by
  simp only [callV]
  cases E.call f args s <;> try rfl
  simp only
  cases Nat.beq _ _ <;> rfl
theorem callCV_bind (xs : List (Option Nat × AV)) (f : Nat) (args : List AV) : callCV E s k kp xs f args = Res.bind (callCV E s .ok .panic xs f args) k kp := by
  simp only [callCV, callV]
  cases E.call f args s <;> try rfl
  simp only
  cases Nat.beq _ _ <;> try rfl
  simp only [cond_true]
  cases xs.all _ <;> rfl
theorem callPV_bind (f : Nat) (args : List AV) : callPV E s k f args = Res.bind (callPV E s .ok f args) k kp := by
  simp only [callPV]
  cases AV.reflessL args <;> try rfl
  simp only [cond_true]
  cases E.call f args _ <;> try rfl
  rename_i v _
  simp only
  cases v.refless <;> rfl
theorem loadOp_bind (n : Option Nat) (v : AV) : loadOp E s k n v = Res.bind (loadOp E s .ok n v) k kp := by
  cases v <;> simp only [loadOp] <;> try rfl
  · rename_i a off
    cases s.get a <;> try rfl
    rename_i o
    cases o <;> try rfl
    exact loadV_bind hE s k kp _ _
  · exact loadV_bind hE s k kp _ _
theorem fieldAddrV_bind (off : Nat) (v : AV) : fieldAddrV E s k off v = Res.bind (fieldAddrV E s .ok off v) k kp := by
  cases v <;> simp only [fieldAddrV, hE, Force.not] <;> rfl
theorem fieldV_bind (off : Nat) (n : Option Nat) (v : AV) : fieldV E s k off n v = Res.bind (fieldV E s .ok off n v) k kp := by
  cases v <;> simp only [fieldV] <;> try rfl
  exact loadV_bind hE s k kp _ _
theorem idxStrV_bind (v i : AV) : idxStrV E s k v i = Res.bind (idxStrV E s .ok v i) k kp := by
  cases v <;> simp only [idxStrV, hE, Force.not] <;> try rfl
  cases asNat i <;> try rfl
  simp only
  split <;> rfl
theorem idxAggV_bind (sz len : Nat) (n : Option Nat) (v i : AV) : idxAggV E s k sz len n v i = Res.bind (idxAggV E s .ok sz len n v i) k kp := by
  cases v <;> simp only [idxAggV] <;> try rfl
  cases asNat i <;> try rfl
  simp only
  cases Nat.blt _ _ <;> try rfl
  exact loadV_bind hE s k kp _ _
theorem extractV_bind (i : Nat) (v : AV) : extractV E s k i v = Res.bind (extractV E s .ok i v) k kp := by
  cases v <;> simp only [extractV] <;> try rfl
  exact oV_bind hE s k kp _
theorem lenV_bind (b : Bool) (v : AV) : lenV E s k b v = Res.bind (lenV E s .ok b v) k kp := by
  cases b <;> cases v <;> simp only [lenV, hE, Force.not] <;> rfl
theorem copyV_bind (d x : AV) : copyV E s k d x = Res.bind (copyV E s .ok d x) k kp := by
  cases d <;> simp only [copyV, hE, Force.not] <;> try rfl
  rename_i a off len cap sz
  cases elemsOf s x <;> try rfl
  simp only
  cases s.get a <;> try rfl
  rename_i o
  cases o <;> try rfl
  simp only
  cases (_ && _ : Bool) <;> try rfl
  simp only [cond_true]
  cases s.set a _ <;> rfl
theorem copyOp_bind (q : Nat) (d x : AV) : copyOp E s k q d x = Res.bind (copyOp E s .ok q d x) k kp := by
  cases d <;> simp only [copyOp] <;> try rfl
  cases Nat.beq _ _ <;> first | rfl | skip
  simp only [cond_true]
  exact copyV_bind hE s k kp _ _
theorem makeV_bind (zero : List AV) (bytes : Nat) (l c : AV) : makeV E s k zero bytes l c = Res.bind (makeV E s .ok zero bytes l c) k kp := by
  simp only [makeV, hE, Force.not]
  cases asNat l <;> try rfl
  cases asNat c <;> try rfl
  simp only
  cases (_ && _ : Bool) <;> rfl
theorem storeOp_bind (n : Nat) (a v : AV) : storeOp E s k n a v = Res.bind (storeOp E s .ok n a v) k kp := by
  cases a <;> simp only [storeOp] <;> try rfl
  cases (_ && _ : Bool) <;> try rfl
  exact storeV_bind hE s k kp _ _ _
theorem convIntV_bind (d : IntKind) (v : AV) : convIntV E s k d v = Res.bind (convIntV E s .ok d v) k kp := by
  cases v <;> simp only [convIntV, hE, Force.not] <;> rfl
theorem convIdV_bind (v : AV) : convIdV s k v = Res.bind (convIdV s .ok v) k kp := by cases v <;> rfl
theorem strToBytesV_bind (v : AV) : strToBytesV E s k v = Res.bind (strToBytesV E s .ok v) k kp := by
  cases v <;> simp only [strToBytesV, hE, Force.not] <;> rfl
theorem bytesToStrV_bind (v : AV) : bytesToStrV E s k v = Res.bind (bytesToStrV E s .ok v) k kp := by
  cases v <;> first | rfl | (simp only [bytesToStrV]; cases elemsOf s _ <;> first | rfl | exact oV_bind hE s k kp _)
theorem pickV_bind (c a b : AV) : pickV E s k c a b = Res.bind (pickV E s .ok c a b) k kp := by
  cases c <;> simp only [pickV, hE, Force.not] <;> rfl
theorem nilCheckV_bind (v : AV) : nilCheckV E s k v = Res.bind (nilCheckV E s .ok v) k kp := by
  simp only [nilCheckV, hE, Force.not]
  cases isNil v <;> try rfl
  rename_i b
  cases b <;> rfl
theorem moveFV_bind (v : AV) : moveFV E s k v = Res.bind (moveFV E s .ok v) k kp := by
  cases v <;> simp only [moveFV, hE, Force.not] <;> try rfl
  rename_i a off len cap sz
  cases a <;> try rfl
  simp only
  rename_i i
  cases s.own[i]? <;> try rfl
  rename_i o
  cases o <;> try rfl
  simp only
  cases (_ && _ : Bool) <;> rfl
theorem buildSliceV_bind (sz : Nat) (es : List AV) : buildSliceV E s k sz es = Res.bind (buildSliceV E s .ok sz es) k kp := by
  simp only [buildSliceV, hE, Force.not]
  cases (_ && _ : Bool) <;> rfl
theorem callFV_bind (f : AV) (args : List AV) : callFV E s k kp f args = Res.bind (callFV E s .ok .panic f args) k kp := by
  cases f <;> simp only [callFV, hE, Force.not] <;> try rfl
  exact callV_bind hE s k kp _ _
theorem callFPV_bind (f : AV) (args : List AV) : callFPV E s k f args = Res.bind (callFPV E s .ok f args) k kp := by
  cases f <;> simp only [callFPV, hE, Force.not] <;> try rfl
  exact callPV_bind hE s k kp _ _
theorem foldOp_bind (f : AV → AV → Option AV) (xs : List AV) : foldOp E s k f xs = Res.bind (foldOp E s .ok f xs) k kp := by
  cases xs <;> simp only [foldOp] <;> try rfl
  exact oV_bind hE s k kp _

theorem stepOp_bind (op : AOp) : stepOp E fr s k kp op = Res.bind (stepOp E fr s .ok .panic op) k kp := by
  cases op <;> simp only [stepOp]
  case move => simp only [hE, Force.not]; rfl
  case moveF => exact moveFV_bind hE s k kp _
  case pick => exact pickV_bind hE s k kp _ _ _
  case alloc => simp only [hE, Force.not]; rfl
  case boxRo x => simp only [hE, Force.not]; cases (opnd E.glob fr x).isVal <;> rfl
  case boxMut x => simp only [hE, Force.not]; cases (opnd E.glob fr x).isVal <;> rfl
  case build => exact oV_bind hE s k kp _
  case buildSlice => exact buildSliceV_bind hE s k kp _ _
  case load => exact loadOp_bind hE s k kp _ _
  case store => exact storeOp_bind hE s k kp _ _ _
  case nilCheck => exact nilCheckV_bind hE s k kp _
  case bin => exact oV_bind hE s k kp _
  case eq => exact oV_bind hE s k kp _
  case un => exact oV_bind hE s k kp _
  case convInt => exact convIntV_bind hE s k kp _ _
  case convId => exact convIdV_bind hE s k kp _
  case bytesToStr => exact bytesToStrV_bind hE s k kp _
  case strToBytes => exact strToBytesV_bind hE s k kp _
  case mkIface => simp only [hE, Force.not]; rfl
  case mkFunc => simp only [hE, Force.not]; rfl
  case makeSlice => exact makeV_bind hE s k kp _ _ _ _
  case subStr => exact subStrV_bind hE fr s k kp _ _ _
  case slice => exact sliceV_bind hE fr s k kp _ _ _ _ _
  case fieldAddr => exact fieldAddrV_bind hE s k kp _ _
  case field => exact fieldV_bind hE s k kp _ _ _
  case idxSl => exact idxV_bind hE s k kp _ _ _
  case idxArr => exact idxArrV_bind hE s k kp _ _ _ _
  case idxStr => exact idxStrV_bind hE s k kp _ _
  case idxAgg => exact idxAggV_bind hE s k kp _ _ _ _ _
  case extract => exact extractV_bind hE s k kp _ _
  case call => simp only [hE, Force.not]; exact callV_bind hE s k kp _ _
  case callV => exact callFV_bind hE s k kp _ _
  case callP => simp only [hE, Force.not]; exact callPV_bind hE s k kp _ _
  case callVP => exact callFPV_bind hE s k kp _ _
  case len => exact lenV_bind hE s k kp _ _
  case append =>
    simp only [appendOp]
    cases atLoc E.glob fr _ <;> try rfl
    exact appendV_bind hE s k kp _ _ _ _ _
  case makeMap =>
    simp only [makeMapV, hE, Force.not]
    cases atLoc E.glob fr _ <;> try rfl
    simp only
    cases s.newBy _ _ <;> rfl
  case mapPut => exact mapPutV_bind hE s k kp _ _ _ _
  case lookup => exact lookupV_bind hE s k kp _ _ _ _ _
  case no => rfl
  case nilI => exact oV_bind hE s k kp _
  case callC => simp only [hE, Force.not]; exact callCV_bind hE s k kp _ _ _
  case callVC =>
    simp only [callFCV, hE, Force.not]
    cases opnd E.glob fr _ <;> try rfl
    exact callCV_bind hE s k kp _ _ _
  case copy => exact copyOp_bind hE s k kp _ _ _
  case min => exact foldOp_bind hE s k kp _ _
  case max => exact foldOp_bind hE s k kp _ _
end
end Go.Ab
