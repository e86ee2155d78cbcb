/- Which operations may change places. -/
import Derived.Test.YtnafklimohmfkaaDoorBind
namespace Go.Ab
set_option linter.unusedSimpArgs false
set_option linter.unusedSectionVars false
set_option linter.unusedVariables false

def optK (o : Option AV) (k : AV → St → Res) (s : St) : Res :=
  match o with
  | some v => k v s
  | none => .fail

/-- What the world is to an operation: nothing (0), it is read (1), it is changed (2). -/
def AOp.cls : AOp → Nat
  | .load .. | .bytesToStr _ | .lookup .. => 1
  | .moveF _ | .alloc _ | .boxMut _ | .store .. | .makeSlice .. | .append .. | .copy .. | .call .. | .callV .. | .makeMap _ | .mapPut .. | .callC .. | .callVC .. => 2
  | _ => 0

def AOp.opds : AOp → List AOpd
  | .move x | .moveF x | .boxRo x | .boxMut x | .load _ x | .nilCheck x | .un _ x | .convInt _ x | .convId x | .bytesToStr x | .strToBytes x | .mkIface _ x | .fieldAddr _ x | .field _ _ x | .extract x _ | .len _ x => [x]
  | .pick a b c => [a, b, c]
  | .nilI _ x => [x]
  | .alloc _ => []
  | .build _ ps => ps.map (·.2.2)
  | .buildSlice _ xs | .mkFunc _ xs | .call _ xs | .callP _ xs | .min xs | .max xs => xs
  | .store _ a b | .bin _ a b | .eq _ _ a b | .makeSlice _ _ a b | .idxSl _ a b | .idxArr _ _ a b | .idxStr a b | .idxAgg _ _ _ a b | .copy _ a b | .lookup _ _ _ a b => [a, b]
  | .append _ _ c a b => c.toList ++ [a, b]
  | .makeMap c => c.toList
  | .mapPut _ a b c => [a, b, c]
  | .no => []
  | .callV f xs | .callVP f xs => f :: xs
  | .callC ks _ xs => ks.map (·.2) ++ xs
  | .callVC ks f xs => f :: (ks.map (·.2) ++ xs)
  | .subStr x lo hi => x :: (lo.toList ++ hi.toList)
  | .slice _ x lo hi mx => x :: (lo.toList ++ hi.toList ++ mx.toList)

section
variable {E : Env} (hE : E.F = .not) (fr : Nat → AV)
include hE

theorem oV_free (v : Option AV) : ∃ o, ∀ s k, oV E s k v = optK o k s := ⟨v, fun s k => by cases v <;> simp only [oV, hE, Force.not, optK]⟩
theorem loadV_free (m : Option Nat) (cs : List AV) : ∃ o, ∀ s k, loadV E s k m cs = optK o k s := by
  cases m <;> simp only [loadV, hE, Force.not]
  · cases cs
    · exact ⟨none, fun _ _ => rfl⟩
    · exact ⟨some _, fun _ _ => rfl⟩
  · cases Nat.ble _ _
    · exact ⟨none, fun _ _ => rfl⟩
    · exact ⟨some _, fun _ _ => rfl⟩
theorem subStrV_free (x : AV) (lo hi : Option AOpd) : ∃ o, ∀ s k, subStrV E fr s k x lo hi = optK o k s := by
  cases x <;> simp only [subStrV, hE, Force.not] <;> try exact ⟨none, fun _ _ => rfl⟩
  cases bound E.glob fr lo 0 <;> try exact ⟨none, fun _ _ => rfl⟩
  cases bound E.glob fr hi _ <;> try exact ⟨none, fun _ _ => rfl⟩
  simp only
  cases (_ && _ : Bool)
  · exact ⟨none, fun _ _ => rfl⟩
  · exact ⟨some _, fun _ _ => rfl⟩
theorem sliceV_free (z : Nat) (x : AV) (lo hi mx : Option AOpd) : ∃ o, ∀ s k, sliceV E fr s k z x lo hi mx = optK o k s := by
  cases x <;> simp only [sliceV, hE, Force.not] <;> try exact ⟨none, fun _ _ => rfl⟩
  · cases bound E.glob fr lo 0 <;> try exact ⟨none, fun _ _ => rfl⟩
    cases bound E.glob fr hi _ <;> try exact ⟨none, fun _ _ => rfl⟩
    cases mx with
    | none =>
      simp only
      cases (_ && _ : Bool)
      · exact ⟨none, fun _ _ => rfl⟩
      · exact ⟨some _, fun _ _ => rfl⟩
    | some x =>
      simp only
      rename_i g _ _
      cases asNat (opnd E.glob fr x) <;> cases g <;> try exact ⟨none, fun _ _ => rfl⟩
      all_goals
        simp only
        cases (_ && _ : Bool)
        · exact ⟨none, fun _ _ => rfl⟩
        · exact ⟨some _, fun _ _ => rfl⟩
  · cases bound E.glob fr lo 0 <;> try exact ⟨none, fun _ _ => rfl⟩
    cases bound E.glob fr hi _ <;> try exact ⟨none, fun _ _ => rfl⟩
    cases bound E.glob fr mx _ <;> try exact ⟨none, fun _ _ => rfl⟩
    simp only
    cases (_ && _ : Bool)
    · exact ⟨none, fun _ _ => rfl⟩
    · exact ⟨some _, fun _ _ => rfl⟩
theorem idxV_free (sz : Nat) (x i : AV) : ∃ o, ∀ s k, idxV E s k sz x i = optK o k s := by
  simp only [idxV, hE, Force.not]
  cases asNat i <;> try exact ⟨none, fun _ _ => rfl⟩
  rename_i i
  cases x <;> try exact ⟨none, fun _ _ => rfl⟩
  · simp only
    cases Nat.beq _ _
    · exact ⟨none, fun _ _ => rfl⟩
    rename_i es _
    simp only [cond_true]
    cases es[i]?
    · exact ⟨none, fun _ _ => rfl⟩
    · exact ⟨some _, fun _ _ => rfl⟩
  · simp only
    cases (_ && _ : Bool)
    · exact ⟨none, fun _ _ => rfl⟩
    · exact ⟨some _, fun _ _ => rfl⟩
theorem idxArrV_free (sz len : Nat) (x i : AV) : ∃ o, ∀ s k, idxArrV E s k sz len x i = optK o k s := by
  simp only [idxArrV, hE, Force.not]
  cases asNat i <;> try exact ⟨none, fun _ _ => rfl⟩
  simp only
  cases Nat.blt _ _ <;> try exact ⟨none, fun _ _ => rfl⟩
  cases x <;> first | exact ⟨none, fun _ _ => rfl⟩ | exact ⟨some _, fun _ _ => rfl⟩
theorem callPV_free (f : Nat) (args : List AV) : ∃ o, ∀ s k, callPV E s k f args = optK o k s := by
  simp only [callPV]
  cases AV.reflessL args <;> try exact ⟨none, fun _ _ => rfl⟩
  simp only [cond_true]
  cases E.call f args _ <;> try exact ⟨none, fun _ _ => rfl⟩
  rename_i v _
  simp only
  cases v.refless
  · exact ⟨none, fun _ _ => rfl⟩
  · exact ⟨some _, fun _ _ => rfl⟩
theorem fieldAddrV_free (off : Nat) (v : AV) : ∃ o, ∀ s k, fieldAddrV E s k off v = optK o k s := by
  cases v <;> simp only [fieldAddrV, hE, Force.not] <;> first | exact ⟨none, fun _ _ => rfl⟩ | exact ⟨some _, fun _ _ => rfl⟩
theorem fieldV_free (off : Nat) (n : Option Nat) (v : AV) : ∃ o, ∀ s k, fieldV E s k off n v = optK o k s := by
  cases v <;> simp only [fieldV] <;> try exact ⟨none, fun _ _ => rfl⟩
  exact loadV_free hE _ _
theorem idxStrV_free (v i : AV) : ∃ o, ∀ s k, idxStrV E s k v i = optK o k s := by
  cases v <;> simp only [idxStrV, hE, Force.not] <;> try exact ⟨none, fun _ _ => rfl⟩
  cases asNat i <;> try exact ⟨none, fun _ _ => rfl⟩
  rename_i bs i
  simp only
  cases bs[i]?
  · exact ⟨none, fun _ _ => rfl⟩
  · exact ⟨some _, fun _ _ => rfl⟩
theorem idxAggV_free (sz len : Nat) (n : Option Nat) (v i : AV) : ∃ o, ∀ s k, idxAggV E s k sz len n v i = optK o k s := by
  cases v <;> simp only [idxAggV] <;> try exact ⟨none, fun _ _ => rfl⟩
  cases asNat i <;> try exact ⟨none, fun _ _ => rfl⟩
  simp only
  cases Nat.blt _ _ <;> try exact ⟨none, fun _ _ => rfl⟩
  exact loadV_free hE _ _
theorem extractV_free (i : Nat) (v : AV) : ∃ o, ∀ s k, extractV E s k i v = optK o k s := by
  cases v <;> simp only [extractV] <;> try exact ⟨none, fun _ _ => rfl⟩
  exact oV_free hE _
theorem lenV_free (b : Bool) (v : AV) : ∃ o, ∀ s k, lenV E s k b v = optK o k s := by
  cases b <;> cases v <;> simp only [lenV, hE, Force.not] <;> first | exact ⟨none, fun _ _ => rfl⟩ | exact ⟨some _, fun _ _ => rfl⟩
theorem convIntV_free (d : IntKind) (v : AV) : ∃ o, ∀ s k, convIntV E s k d v = optK o k s := by
  cases v <;> simp only [convIntV, hE, Force.not] <;> first | exact ⟨none, fun _ _ => rfl⟩ | exact ⟨some _, fun _ _ => rfl⟩
omit hE in
theorem convIdV_free (v : AV) : ∃ o, ∀ s k, convIdV s k v = optK o k s := by
  cases v <;> simp only [convIdV] <;> first | exact ⟨none, fun _ _ => rfl⟩ | exact ⟨some _, fun _ _ => rfl⟩
theorem strToBytesV_free (v : AV) : ∃ o, ∀ s k, strToBytesV E s k v = optK o k s := by
  cases v <;> simp only [strToBytesV, hE, Force.not] <;> first | exact ⟨none, fun _ _ => rfl⟩ | exact ⟨some _, fun _ _ => rfl⟩
theorem pickV_free (c a b : AV) : ∃ o, ∀ s k, pickV E s k c a b = optK o k s := by
  cases c <;> simp only [pickV, hE, Force.not] <;> first | exact ⟨none, fun _ _ => rfl⟩ | exact ⟨some _, fun _ _ => rfl⟩
theorem nilCheckV_free (v : AV) : ∃ o, ∀ s k, nilCheckV E s k v = optK o k s := by
  simp only [nilCheckV, hE, Force.not]
  cases isNil v <;> try exact ⟨none, fun _ _ => rfl⟩
  rename_i b
  cases b
  · exact ⟨some _, fun _ _ => rfl⟩
  · exact ⟨none, fun _ _ => rfl⟩
theorem buildSliceV_free (sz : Nat) (es : List AV) : ∃ o, ∀ s k, buildSliceV E s k sz es = optK o k s := by
  simp only [buildSliceV, hE, Force.not]
  cases (_ && _ : Bool)
  · exact ⟨none, fun _ _ => rfl⟩
  · exact ⟨some _, fun _ _ => rfl⟩
theorem callFPV_free (f : AV) (args : List AV) : ∃ o, ∀ s k, callFPV E s k f args = optK o k s := by
  cases f <;> simp only [callFPV, hE, Force.not] <;> try exact ⟨none, fun _ _ => rfl⟩
  exact callPV_free hE _ _
theorem foldOp_free (f : AV → AV → Option AV) (xs : List AV) : ∃ o, ∀ s k, foldOp E s k f xs = optK o k s := by
  cases xs <;> simp only [foldOp] <;> try exact ⟨none, fun _ _ => rfl⟩
  exact oV_free hE _

/-- An operation to which the world is nothing. -/
theorem step_free {op : AOp} (hc : op.cls = 0) (d : Nat) : ∃ o, ∀ (s : St) k kp, s.depth = d → stepOp E fr s k kp op = optK o k s := by
  have key : ∀ {f : St → (AV → St → Res) → Res}, (∃ o, ∀ s k, f s k = optK o k s) → ∃ o, ∀ (s : St) (k kp : AV → St → Res), s.depth = d → f s k = optK o k s := fun ⟨o, h⟩ => ⟨o, fun s k kp _ => h s k⟩
  cases op <;> simp only [AOp.cls] at hc <;> first | exact absurd hc (by decide) | skip
  all_goals simp only [stepOp]
  case move x => exact ⟨some (opnd E.glob fr x), fun s k kp _ => by simp only [hE, Force.not, optK]⟩
  case pick c a b => exact key (pickV_free hE _ _ _)
  case boxRo x =>
    cases hv : (opnd E.glob fr x).isVal
    · exact ⟨none, fun s k kp _ => by simp only [hE, Force.not, optK, cond_false]⟩
    · exact ⟨some (.vptr ((opnd E.glob fr x).pub d).cells), fun s k kp h => by simp only [hE, Force.not, optK, cond_true, h]⟩
  case build zero parts => exact ⟨(fillParts E.glob d fr zero parts).map .agg, fun s k kp h => by rw [h]; cases fillParts E.glob d fr zero parts <;> simp only [oV, hE, Force.not, optK, Option.map_some, Option.map_none]⟩
  case buildSlice => exact key (buildSliceV_free hE _ _)
  case nilCheck => exact key (nilCheckV_free hE _)
  case bin => exact key (oV_free hE _)
  case eq => exact key (oV_free hE _)
  case un => exact key (oV_free hE _)
  case convInt => exact key (convIntV_free hE _ _)
  case convId => exact key (convIdV_free _)
  case strToBytes => exact key (strToBytesV_free hE _)
  case mkIface t x => exact ⟨some (.iface t ((opnd E.glob fr x).pub d)), fun s k kp h => by simp only [hE, Force.not, optK, h]⟩
  case mkFunc f caps => exact ⟨some (.fn f (caps.map fun x => (opnd E.glob fr x).pub d)), fun s k kp h => by simp only [hE, Force.not, optK, h]⟩
  case subStr => exact key (subStrV_free hE fr _ _ _)
  case slice => exact key (sliceV_free hE fr _ _ _ _ _)
  case fieldAddr => exact key (fieldAddrV_free hE _ _)
  case field => exact key (fieldV_free hE _ _ _)
  case idxSl => exact key (idxV_free hE _ _ _)
  case idxArr => exact key (idxArrV_free hE _ _ _ _)
  case idxStr => exact key (idxStrV_free hE _ _)
  case idxAgg => exact key (idxAggV_free hE _ _ _ _ _)
  case extract => exact key (extractV_free hE _ _)
  case callP f args =>
    obtain ⟨o, h⟩ := callPV_free hE f (args.map fun x => (opnd E.glob fr x).pub d)
    exact ⟨o, fun s k kp hd => by simp only [hE, Force.not, hd]; exact h s k⟩
  case callVP f args =>
    obtain ⟨o, h⟩ := callFPV_free hE (opnd E.glob fr f) (args.map fun x => (opnd E.glob fr x).pub d)
    exact ⟨o, fun s k kp hd => by simp only [hd]; exact h s k⟩
  case no => exact ⟨none, fun s k kp _ => rfl⟩
  case nilI => exact key (oV_free hE _)
  case len => exact key (lenV_free hE _ _)
  case min xs =>
    obtain ⟨o, h⟩ := foldOp_free hE min2 (xs.map fun x => (opnd E.glob fr x).pub d)
    exact ⟨o, fun s k kp hd => by simp only [hd]; exact h s k⟩
  case max xs =>
    obtain ⟨o, h⟩ := foldOp_free hE max2 (xs.map fun x => (opnd E.glob fr x).pub d)
    exact ⟨o, fun s k kp hd => by simp only [hd]; exact h s k⟩

/-- An operation that only reads. -/
theorem step_reads {op : AOp} (hc : op.cls = 1) {s s' : St} {v : AV} (h : stepOp E fr s .ok .panic op = .ok v s') : s' = s := by
  have ov : ∀ {m : Option AV}, oV E s .ok m = .ok v s' → s' = s := fun {m} h => by
    cases m <;> simp [oV, hE, Force.not] at h
    exact h.2.symm
  have lv : ∀ {n : Option Nat} {cs : List AV}, loadV E s .ok n cs = .ok v s' → s' = s := fun {n cs} h => by
    obtain ⟨o, ho⟩ := loadV_free hE n cs
    rw [ho] at h
    cases o <;> simp [optK] at h
    exact h.2.symm
  cases op <;> simp only [AOp.cls] at hc <;> first | exact absurd hc (by decide) | skip
  all_goals simp only [stepOp] at h
  case load n a =>
    unfold loadOp at h
    split at h
    · exact lv h
    · split at h
      · exact lv h
      · cases h
    · cases h
  case bytesToStr x =>
    unfold bytesToStrV at h
    split at h
    · cases h
    · split at h
      · exact ov h
      · cases h
  case lookup kd z ok m x =>
    unfold lookupV at h
    simp only [hE, Force.not] at h
    cases hk : isKey kd (AV.pub s.depth (opnd E.glob fr x)) with
    | false => rw [hk] at h; cases h
    | true =>
      rw [hk, cond_true] at h
      split at h
      · split at h
        · simp only [Res.ok.injEq] at h; exact h.2.symm
        · simp only [Res.ok.injEq] at h; exact h.2.symm
        · cases h
      · cases h
end

theorem St.set_depth {s s' : St} {a : Loc} {o : AObj} (h : s.set a o = some s') : s'.depth = s.depth := by
  unfold St.set at h
  split at h
  · simp only [Option.some.injEq] at h; subst h; rfl
  · split at h
    · simp only [Option.some.injEq] at h; subst h; rfl
    · split at h
      · simp only [Option.some.injEq] at h; subst h; simp [St.depth]
      · cases h
theorem St.new_depth (s : St) (o : AObj) : (s.new o).depth = s.depth := rfl
theorem St.newBy_depth {s s' : St} {a l : Loc} {o : AObj} (h : s.newBy a o = some (l, s')) : s'.depth = s.depth := by
  unfold St.newBy at h
  split at h
  · simp only [Option.some.injEq, Prod.mk.injEq] at h; rw [← h.2]; rfl
  · split at h
    · simp only [Option.some.injEq, Prod.mk.injEq] at h; rw [← h.2]; rfl
    · split at h
      · split at h
        · simp only [Option.some.injEq, Prod.mk.injEq] at h; rw [← h.2]; simp [St.depth]
        · cases h
      · cases h

section
variable {E : Env} (hE : E.F = .not) (fr : Nat → AV)
include hE
theorem storeV_depth {s s' : St} {v : AV} {a : Loc} {off : Nat} {vs : List AV} (h : storeV E s .ok a off vs = .ok v s') : s'.depth = s.depth := by
  simp only [storeV, hE, Force.not] at h
  split at h
  · cases hb : (Nat.ble (off + vs.length) _ && s.takes a vs && vs.all AV.isCell) with
    | false => rw [hb] at h; cases h
    | true =>
      rw [hb, cond_true] at h
      split at h
      · rename_i hset
        simp only [Res.ok.injEq] at h
        rw [← h.2]
        exact St.set_depth hset
      · cases h
  · cases h
theorem callV_depth {s s' : St} {v : AV} {f : Nat} {args : List AV} (h : callV E s .ok .panic f args = .ok v s') : s'.depth = s.depth := by
  simp only [callV] at h
  split at h
  · rename_i v' s'' hc
    cases hb : Nat.beq s''.depth s.depth with
    | false => rw [hb] at h; cases h
    | true =>
      rw [hb, cond_true] at h
      simp only [Res.ok.injEq] at h
      rw [← h.2]
      exact Nat.eq_of_beq_eq_true hb
  · cases h
  · cases h
theorem callCV_ok {s s' : St} {v : AV} {xs : List (Option Nat × AV)} {f : Nat} {args : List AV} (h : callCV E s .ok .panic xs f args = .ok v s') : callV E s .ok .panic f args = .ok v s' ∧ ∀ x, x ∈ xs → ∃ l, cellsAt s x.1 x.2 = some l ∧ cellsAt s' x.1 x.2 = some l := by
  simp only [callCV, callV] at h ⊢
  cases hc : E.call f args s <;> rw [hc] at h <;> try cases h
  rename_i v' s''
  simp only at h ⊢
  cases hb : Nat.beq s''.depth s.depth with
  | false => rw [hb] at h; cases h
  | true =>
    rw [hb, cond_true] at h
    cases ha : xs.all fun x => sameO (cellsAt s x.1 x.2) (cellsAt s'' x.1 x.2) with
    | false => rw [ha] at h; cases h
    | true =>
      rw [ha, cond_true] at h
      simp only [Res.ok.injEq] at h
      obtain ⟨rfl, rfl⟩ := h
      refine ⟨by simp, fun x hx => ?_⟩
      exact sameO_eq.1 (List.all_eq_true.1 ha x hx)
theorem bif_ok {b : Bool} {x : Res} {v : AV} {s' : St} (h : (bif b then x else .fail) = .ok v s') : x = .ok v s' := by
  cases b with
  | true => exact h
  | false => cases h
theorem copyV_depth {s s' : St} {v : AV} {d x : AV} (h : copyV E s .ok d x = .ok v s') : s'.depth = s.depth := by
  simp only [copyV, hE, Force.not] at h
  split at h
  · split at h
    · split at h
      · have h := bif_ok hE h
        split at h
        · rename_i hset
          simp only [Res.ok.injEq] at h
          rw [← h.2]
          exact St.set_depth hset
        · cases h
      · cases h
    · cases h
  · cases h
theorem appendV_depth {s s' : St} {v : AV} {q b : Nat} {l : Loc} {x y : AV} (h : appendV E s .ok q b l x y = .ok v s') : s'.depth = s.depth := by
  simp only [appendV, hE, Force.not] at h
  split at h
  · cases h
  · split at h
    · have h := bif_ok hE h
      split at h
      · simp only [Res.ok.injEq] at h; rw [← h.2]
      · split at h
        · split at h
          · rename_i hby; simp only [Res.ok.injEq] at h; rw [← h.2]; exact St.newBy_depth hby
          · cases h
        · split at h
          · rename_i hby; simp only [Res.ok.injEq] at h; rw [← h.2]; exact St.newBy_depth hby
          · cases h
        · split at h
          · have h := bif_ok hE h
            split at h
            · rename_i hset
              simp only [Res.ok.injEq] at h
              rw [← h.2]
              exact St.set_depth hset
            · cases h
          · cases h
        · cases h
    · split at h
      · have h := bif_ok hE h
        split at h
        · rename_i hset
          simp only [Res.ok.injEq] at h
          rw [← h.2]
          exact St.set_depth hset
        · cases h
      · cases h
    · cases h
/-- No operation leaves its frame. -/
theorem step_depth {op : AOp} {s s' : St} {v : AV} (h : stepOp E fr s .ok .panic op = .ok v s') : s'.depth = s.depth := by
  by_cases h0 : op.cls = 0
  · obtain ⟨o, ho⟩ := step_free hE fr h0 s.depth
    rw [ho s _ _ rfl] at h
    cases o <;> simp [optK] at h
    rw [h.2]
  by_cases h1 : op.cls = 1
  · rw [step_reads hE fr h1 h]
  cases op <;> simp only [AOp.cls] at h0 h1 <;> first | exact absurd trivial h0 | exact absurd trivial h1 | skip
  all_goals simp only [stepOp] at h
  case moveF x =>
    unfold moveFV at h
    split at h
    · split at h
      · simp only [hE, Force.not] at h
        have h := bif_ok hE h
        simp only [Res.ok.injEq] at h
        rw [← h.2]
        rfl
      · cases h
    · cases h
  case alloc z =>
    simp only [hE, Force.not, Res.ok.injEq] at h
    rw [← h.2]; rfl
  case boxMut x =>
    simp only [hE, Force.not] at h
    have h := bif_ok hE h
    simp only [Res.ok.injEq] at h
    rw [← h.2]; rfl
  case store n a u =>
    unfold storeOp at h
    split at h
    · exact storeV_depth hE (bif_ok hE h)
    · cases h
  case makeSlice z b l c =>
    unfold makeV at h
    split at h
    · split at h
      · simp only [hE, Force.not] at h
        have h := bif_ok hE h
        simp only [Res.ok.injEq] at h
        rw [← h.2]; rfl
      · cases h
    · cases h
  case call f xs =>
    simp only [hE, Force.not] at h
    exact callV_depth hE h
  case callV f xs =>
    unfold callFV at h
    split at h
    · simp only [hE, Force.not] at h
      exact callV_depth hE h
    · cases h
  case callC ks f xs =>
    simp only [hE, Force.not] at h
    exact callV_depth hE (callCV_ok hE h).1
  case callVC ks f xs =>
    unfold callFCV at h
    split at h
    · simp only [hE, Force.not] at h
      exact callV_depth hE (callCV_ok hE h).1
    · cases h
  case append =>
    unfold appendOp at h
    split at h
    · exact appendV_depth hE h
    · cases h
  case makeMap =>
    unfold makeMapV at h
    split at h
    · split at h
      · rename_i hby
        simp only [hE, Force.not, Res.ok.injEq] at h
        rw [← h.2]
        exact St.newBy_depth hby
      · cases h
    · cases h
  case mapPut kd m x u =>
    unfold mapPutV at h
    split at h
    · split at h
      · have h := bif_ok hE h
        split at h
        · split at h
          · rename_i hset
            simp only [hE, Force.not, Res.ok.injEq] at h
            rw [← h.2]
            exact St.set_depth hset
          · cases h
        · cases h
      · cases h
    · cases h
  case copy q d x =>
    unfold copyOp at h
    split at h
    · exact copyV_depth hE (bif_ok hE h)
    · cases h
end
end Go.Ab
