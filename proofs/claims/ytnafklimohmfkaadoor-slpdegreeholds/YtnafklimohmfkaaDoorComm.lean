/- Which operations may change places. -/
import Derived.Test.YtnafklimohmfkaaDoorStep
import Derived.Test.YtnafklimohmfkaaDoorAbs
import Derived.Orders
import Derived.Scope
section
/- Which operations may change places. -/
namespace Go.Ab
set_option linter.unusedSimpArgs false
set_option linter.unusedSectionVars false
set_option linter.unusedVariables false

def optK (o : Option AV) (k : AV → St → Res) (s : St) : Res :=
  match o with
  | some v => k v s
  | none => .fail

/-- What the world is to an operation: nothing (0), it is read (1), it is changed (2). -/
def AOp.cls : AOp → Nat
  | .load .. | .bytesToStr _ | .lookup .. => 1
  | .moveF _ | .alloc _ | .boxMut _ | .store .. | .makeSlice .. | .append .. | .appendS .. | .appendR .. | .buildSliceR .. | .copy .. | .call .. | .callV .. | .makeMap _ | .mapPut .. | .callC .. | .callVC .. => 2
  | _ => 0

def AOp.opds : AOp → List AOpd
  | .move x | .moveF x | .boxRo x | .boxMut x | .load _ x | .nilCheck x | .un _ x | .convInt _ x | .convId x | .bytesToStr x | .strToBytes x | .mkIface _ x | .fieldAddr _ x | .field _ _ x | .extract x _ | .len _ x => [x]
  | .pick a b c => [a, b, c]
  | .nilI _ x => [x]
  | .alloc _ => []
  | .build _ ps => ps.map (·.2.2)
  | .buildSlice _ xs | .mkFunc _ xs | .call _ xs | .callP _ xs | .min xs | .max xs => xs
  | .store _ a b | .bin _ a b | .eq _ _ a b | .makeSlice _ _ a b | .idxSl _ a b | .idxArr _ _ a b | .idxStr a b | .idxAgg _ _ _ a b | .copy _ a b | .lookup _ _ _ a b => [a, b]
  | .append _ _ c a b => c.toList ++ [a, b]
  | .appendS _ _ c a b => c.toList ++ [a, b]
  | .appendR _ _ c a b => c.toList ++ [a, b]
  | .buildSliceR _ xs => xs
  | .makeMap c => c.toList
  | .mapPut _ a b c => [a, b, c]
  | .no => []
  | .callV f xs | .callVP f xs => f :: xs
  | .callC ks _ xs => ks.map (·.2) ++ xs
  | .callVC ks f xs => f :: (ks.map (·.2) ++ xs)
  | .subStr x lo hi => x :: (lo.toList ++ hi.toList)
  | .slice _ x lo hi mx => x :: (lo.toList ++ hi.toList ++ mx.toList)
  | .sliceA _ _ x lo hi mx => x :: (lo.toList ++ hi.toList ++ mx.toList)

section
variable {E : Env} (hE : E.F = .not) (fr : Nat → AV)
include hE

theorem oV_free (v : Option AV) : ∃ o, ∀ s k, oV E s k v = optK o k s := ⟨v, fun s k => by cases v <;> simp only [oV, hE, Force.not, optK]⟩
theorem loadV_free (m : Option Nat) (cs : List AV) : ∃ o, ∀ s k, loadV E s k m cs = optK o k s := by
  cases m <;> simp only [loadV, hE, Force.not]
  · cases cs
    · exact ⟨none, fun _ _ => rfl⟩
    · exact ⟨some _, fun _ _ => rfl⟩
  · cases Nat.ble _ _
    · exact ⟨none, fun _ _ => rfl⟩
    · exact ⟨some _, fun _ _ => rfl⟩
theorem subStrV_free (x : AV) (lo hi : Option AOpd) : ∃ o, ∀ s k, subStrV E fr s k x lo hi = optK o k s := by
  cases x <;> simp only [subStrV, hE, Force.not] <;> try exact ⟨none, fun _ _ => rfl⟩
  cases bound E.glob fr lo 0 <;> try exact ⟨none, fun _ _ => rfl⟩
  cases bound E.glob fr hi _ <;> try exact ⟨none, fun _ _ => rfl⟩
  simp only
  cases (_ && _ : Bool)
  · exact ⟨none, fun _ _ => rfl⟩
  · exact ⟨some _, fun _ _ => rfl⟩
theorem sliceAV_free (z n : Nat) (x : AV) (lo hi mx : Option AOpd) : ∃ o, ∀ s k, sliceAV E fr s k z n x lo hi mx = optK o k s := by
  cases x <;> simp only [sliceAV, hE, Force.not] <;> try exact ⟨none, fun _ _ => rfl⟩
  cases bound E.glob fr lo 0 <;> try exact ⟨none, fun _ _ => rfl⟩
  cases bound E.glob fr hi _ <;> try exact ⟨none, fun _ _ => rfl⟩
  cases bound E.glob fr mx _ <;> try exact ⟨none, fun _ _ => rfl⟩
  simp only
  cases (_ && _ : Bool)
  · exact ⟨none, fun _ _ => rfl⟩
  · exact ⟨some _, fun _ _ => rfl⟩
theorem sliceV_free (z : Nat) (x : AV) (lo hi mx : Option AOpd) : ∃ o, ∀ s k, sliceV E fr s k z x lo hi mx = optK o k s := by
  cases x <;> simp only [sliceV, hE, Force.not] <;> try exact ⟨none, fun _ _ => rfl⟩
  · cases bound E.glob fr lo 0 <;> try exact ⟨none, fun _ _ => rfl⟩
    cases bound E.glob fr hi _ <;> try exact ⟨none, fun _ _ => rfl⟩
    cases mx with
    | none =>
      simp only
      cases (_ && _ : Bool)
      · exact ⟨none, fun _ _ => rfl⟩
      · exact ⟨some _, fun _ _ => rfl⟩
    | some x =>
      simp only
      rename_i g _ _
      cases asNat (opnd E.glob fr x) <;> cases g <;> try exact ⟨none, fun _ _ => rfl⟩
      all_goals
        simp only
        cases (_ && _ : Bool)
        · exact ⟨none, fun _ _ => rfl⟩
        · exact ⟨some _, fun _ _ => rfl⟩
  · cases bound E.glob fr lo 0 <;> try exact ⟨none, fun _ _ => rfl⟩
    cases bound E.glob fr hi _ <;> try exact ⟨none, fun _ _ => rfl⟩
    cases bound E.glob fr mx _ <;> try exact ⟨none, fun _ _ => rfl⟩
    simp only
    cases (_ && _ : Bool)
    · exact ⟨none, fun _ _ => rfl⟩
    · exact ⟨some _, fun _ _ => rfl⟩
theorem idxV_free (sz : Nat) (x i : AV) : ∃ o, ∀ s k, idxV E s k sz x i = optK o k s := by
  simp only [idxV, hE, Force.not]
  cases asNat i <;> try exact ⟨none, fun _ _ => rfl⟩
  rename_i i
  cases x <;> try exact ⟨none, fun _ _ => rfl⟩
  · simp only
    cases Nat.beq _ _
    · exact ⟨none, fun _ _ => rfl⟩
    rename_i es _
    simp only [cond_true]
    cases es[i]?
    · exact ⟨none, fun _ _ => rfl⟩
    · exact ⟨some _, fun _ _ => rfl⟩
  · simp only
    cases (_ && _ : Bool)
    · exact ⟨none, fun _ _ => rfl⟩
    · exact ⟨some _, fun _ _ => rfl⟩
theorem idxArrV_free (sz len : Nat) (x i : AV) : ∃ o, ∀ s k, idxArrV E s k sz len x i = optK o k s := by
  simp only [idxArrV, hE, Force.not]
  cases asNat i <;> try exact ⟨none, fun _ _ => rfl⟩
  simp only
  cases Nat.blt _ _ <;> try exact ⟨none, fun _ _ => rfl⟩
  cases x <;> first | exact ⟨none, fun _ _ => rfl⟩ | exact ⟨some _, fun _ _ => rfl⟩
theorem callPV_free (f : Nat) (args : List AV) : ∃ o, ∀ s k, callPV E s k f args = optK o k s := by
  simp only [callPV]
  cases AV.reflessL args <;> try exact ⟨none, fun _ _ => rfl⟩
  simp only [cond_true]
  cases E.call f args _ <;> try exact ⟨none, fun _ _ => rfl⟩
  rename_i v _
  simp only
  cases v.refless
  · exact ⟨none, fun _ _ => rfl⟩
  · exact ⟨some _, fun _ _ => rfl⟩
theorem fieldAddrV_free (off : Nat) (v : AV) : ∃ o, ∀ s k, fieldAddrV E s k off v = optK o k s := by
  cases v <;> simp only [fieldAddrV, hE, Force.not] <;> first | exact ⟨none, fun _ _ => rfl⟩ | exact ⟨some _, fun _ _ => rfl⟩
theorem fieldV_free (off : Nat) (n : Option Nat) (v : AV) : ∃ o, ∀ s k, fieldV E s k off n v = optK o k s := by
  cases v <;> simp only [fieldV] <;> try exact ⟨none, fun _ _ => rfl⟩
  exact loadV_free hE _ _
theorem idxStrV_free (v i : AV) : ∃ o, ∀ s k, idxStrV E s k v i = optK o k s := by
  cases v <;> simp only [idxStrV, hE, Force.not] <;> try exact ⟨none, fun _ _ => rfl⟩
  cases asNat i <;> try exact ⟨none, fun _ _ => rfl⟩
  rename_i bs i
  simp only
  cases bs[i]?
  · exact ⟨none, fun _ _ => rfl⟩
  · exact ⟨some _, fun _ _ => rfl⟩
theorem idxAggV_free (sz len : Nat) (n : Option Nat) (v i : AV) : ∃ o, ∀ s k, idxAggV E s k sz len n v i = optK o k s := by
  cases v <;> simp only [idxAggV] <;> try exact ⟨none, fun _ _ => rfl⟩
  cases asNat i <;> try exact ⟨none, fun _ _ => rfl⟩
  simp only
  cases Nat.blt _ _ <;> try exact ⟨none, fun _ _ => rfl⟩
  exact loadV_free hE _ _
theorem extractV_free (i : Nat) (v : AV) : ∃ o, ∀ s k, extractV E s k i v = optK o k s := by
  cases v <;> simp only [extractV] <;> try exact ⟨none, fun _ _ => rfl⟩
  exact oV_free hE _
theorem lenV_free (b : Bool) (v : AV) : ∃ o, ∀ s k, lenV E s k b v = optK o k s := by
  cases b <;> cases v <;> simp only [lenV, hE, Force.not] <;> first | exact ⟨none, fun _ _ => rfl⟩ | exact ⟨some _, fun _ _ => rfl⟩
theorem convIntV_free (d : IntKind) (v : AV) : ∃ o, ∀ s k, convIntV E s k d v = optK o k s := by
  cases v <;> simp only [convIntV, hE, Force.not] <;> first | exact ⟨none, fun _ _ => rfl⟩ | exact ⟨some _, fun _ _ => rfl⟩
omit hE in
theorem convIdV_free (v : AV) : ∃ o, ∀ s k, convIdV s k v = optK o k s := by
  cases v <;> simp only [convIdV] <;> first | exact ⟨none, fun _ _ => rfl⟩ | exact ⟨some _, fun _ _ => rfl⟩
theorem strToBytesV_free (v : AV) : ∃ o, ∀ s k, strToBytesV E s k v = optK o k s := by
  cases v <;> simp only [strToBytesV, hE, Force.not] <;> first | exact ⟨none, fun _ _ => rfl⟩ | exact ⟨some _, fun _ _ => rfl⟩
theorem pickV_free (c a b : AV) : ∃ o, ∀ s k, pickV E s k c a b = optK o k s := by
  cases c <;> simp only [pickV, hE, Force.not] <;> first | exact ⟨none, fun _ _ => rfl⟩ | exact ⟨some _, fun _ _ => rfl⟩
theorem nilCheckV_free (v : AV) : ∃ o, ∀ s k, nilCheckV E s k v = optK o k s := by
  simp only [nilCheckV, hE, Force.not]
  cases isNil v <;> try exact ⟨none, fun _ _ => rfl⟩
  rename_i b
  cases b
  · exact ⟨some _, fun _ _ => rfl⟩
  · exact ⟨none, fun _ _ => rfl⟩
theorem buildSliceV_free (sz : Nat) (es : List AV) : ∃ o, ∀ s k, buildSliceV E s k sz es = optK o k s := by
  simp only [buildSliceV, hE, Force.not]
  cases (_ && _ : Bool)
  · exact ⟨none, fun _ _ => rfl⟩
  · exact ⟨some _, fun _ _ => rfl⟩
theorem callFPV_free (f : AV) (args : List AV) : ∃ o, ∀ s k, callFPV E s k f args = optK o k s := by
  cases f <;> simp only [callFPV, hE, Force.not] <;> try exact ⟨none, fun _ _ => rfl⟩
  exact callPV_free hE _ _
theorem foldOp_free (f : AV → AV → Option AV) (xs : List AV) : ∃ o, ∀ s k, foldOp E s k f xs = optK o k s := by
  cases xs <;> simp only [foldOp] <;> try exact ⟨none, fun _ _ => rfl⟩
  exact oV_free hE _

/-- An operation to which the world is nothing. -/
theorem step_free {op : AOp} (hc : op.cls = 0) (d : Nat) : ∃ o, ∀ (s : St) k kp, s.depth = d → stepOp E fr s k kp op = optK o k s := by
  have key : ∀ {f : St → (AV → St → Res) → Res}, (∃ o, ∀ s k, f s k = optK o k s) → ∃ o, ∀ (s : St) (k kp : AV → St → Res), s.depth = d → f s k = optK o k s := fun ⟨o, h⟩ => ⟨o, fun s k kp _ => h s k⟩
  cases op <;> simp only [AOp.cls] at hc <;> first | exact absurd hc (by decide) | skip
  all_goals simp only [stepOp]
  case move x => exact ⟨some (opnd E.glob fr x), fun s k kp _ => by simp only [hE, Force.not, optK]⟩
  case pick c a b => exact key (pickV_free hE _ _ _)
  case boxRo x =>
    cases hv : (opnd E.glob fr x).isVal
    · exact ⟨none, fun s k kp _ => by simp only [hE, Force.not, optK, cond_false]⟩
    · exact ⟨some (.vptr ((opnd E.glob fr x).pub d).cells), fun s k kp h => by simp only [hE, Force.not, optK, cond_true, h]⟩
  case build zero parts => exact ⟨(fillParts E.glob d fr zero parts).map .agg, fun s k kp h => by rw [h]; cases fillParts E.glob d fr zero parts <;> simp only [oV, hE, Force.not, optK, Option.map_some, Option.map_none]⟩
  case buildSlice => exact key (buildSliceV_free hE _ _)
  case nilCheck => exact key (nilCheckV_free hE _)
  case bin => exact key (oV_free hE _)
  case eq => exact key (oV_free hE _)
  case un => exact key (oV_free hE _)
  case convInt => exact key (convIntV_free hE _ _)
  case convId => exact key (convIdV_free _)
  case strToBytes => exact key (strToBytesV_free hE _)
  case mkIface t x => exact ⟨some (.iface t ((opnd E.glob fr x).pub d)), fun s k kp h => by simp only [hE, Force.not, optK, h]⟩
  case mkFunc f caps => exact ⟨some (.fn f (caps.map fun x => (opnd E.glob fr x).pub d)), fun s k kp h => by simp only [hE, Force.not, optK, h]⟩
  case subStr => exact key (subStrV_free hE fr _ _ _)
  case slice => exact key (sliceV_free hE fr _ _ _ _ _)
  case sliceA => exact key (sliceAV_free hE fr _ _ _ _ _ _)
  case fieldAddr => exact key (fieldAddrV_free hE _ _)
  case field => exact key (fieldV_free hE _ _ _)
  case idxSl => exact key (idxV_free hE _ _ _)
  case idxArr => exact key (idxArrV_free hE _ _ _ _)
  case idxStr => exact key (idxStrV_free hE _ _)
  case idxAgg => exact key (idxAggV_free hE _ _ _ _ _)
  case extract => exact key (extractV_free hE _ _)
  case callP f args =>
    obtain ⟨o, h⟩ := callPV_free hE f (args.map fun x => (opnd E.glob fr x).pub d)
    exact ⟨o, fun s k kp hd => by simp only [hE, Force.not, hd]; exact h s k⟩
  case callVP f args =>
    obtain ⟨o, h⟩ := callFPV_free hE (opnd E.glob fr f) (args.map fun x => (opnd E.glob fr x).pub d)
    exact ⟨o, fun s k kp hd => by simp only [hd]; exact h s k⟩
  case no => exact ⟨none, fun s k kp _ => rfl⟩
  case nilI => exact key (oV_free hE _)
  case len => exact key (lenV_free hE _ _)
  case min xs =>
    obtain ⟨o, h⟩ := foldOp_free hE min2 (xs.map fun x => (opnd E.glob fr x).pub d)
    exact ⟨o, fun s k kp hd => by simp only [hd]; exact h s k⟩
  case max xs =>
    obtain ⟨o, h⟩ := foldOp_free hE max2 (xs.map fun x => (opnd E.glob fr x).pub d)
    exact ⟨o, fun s k kp hd => by simp only [hd]; exact h s k⟩

/-- An operation that only reads. -/
theorem step_reads {op : AOp} (hc : op.cls = 1) {s s' : St} {v : AV} (h : stepOp E fr s .ok .panic op = .ok v s') : s' = s := by
  have ov : ∀ {m : Option AV}, oV E s .ok m = .ok v s' → s' = s := fun {m} h => by
    cases m <;> simp [oV, hE, Force.not] at h
    exact h.2.symm
  have lv : ∀ {n : Option Nat} {cs : List AV}, loadV E s .ok n cs = .ok v s' → s' = s := fun {n cs} h => by
    obtain ⟨o, ho⟩ := loadV_free hE n cs
    rw [ho] at h
    cases o <;> simp [optK] at h
    exact h.2.symm
  cases op <;> simp only [AOp.cls] at hc <;> first | exact absurd hc (by decide) | skip
  all_goals simp only [stepOp] at h
  case load n a =>
    unfold loadOp at h
    split at h
    · exact lv h
    · split at h
      · exact lv h
      · cases h
    · cases h
  case bytesToStr x =>
    unfold bytesToStrV at h
    split at h
    · cases h
    · split at h
      · exact ov h
      · cases h
  case lookup kd z ok m x =>
    unfold lookupV at h
    simp only [hE, Force.not] at h
    cases hk : isKey kd (AV.pub s.depth (opnd E.glob fr x)) with
    | false => rw [hk] at h; cases h
    | true =>
      rw [hk, cond_true] at h
      split at h
      · split at h
        · simp only [Res.ok.injEq] at h; exact h.2.symm
        · simp only [Res.ok.injEq] at h; exact h.2.symm
        · cases h
      · cases h
end

theorem St.set_depth {s s' : St} {a : Loc} {o : AObj} (h : s.set a o = some s') : s'.depth = s.depth := by
  unfold St.set at h
  split at h
  · simp only [Option.some.injEq] at h; subst h; rfl
  · split at h
    · simp only [Option.some.injEq] at h; subst h; rfl
    · split at h
      · simp only [Option.some.injEq] at h; subst h; simp [St.depth]
      · cases h
theorem St.new_depC (s : St) (o : AObj) : (s.new o).depth = s.depth := rfl
theorem St.newBy_depth {s s' : St} {a l : Loc} {o : AObj} (h : s.newBy a o = some (l, s')) : s'.depth = s.depth := by
  unfold St.newBy at h
  split at h
  · simp only [Option.some.injEq, Prod.mk.injEq] at h; rw [← h.2]; rfl
  · split at h
    · simp only [Option.some.injEq, Prod.mk.injEq] at h; rw [← h.2]; rfl
    · split at h
      · split at h
        · simp only [Option.some.injEq, Prod.mk.injEq] at h; rw [← h.2]; simp [St.depth]
        · cases h
      · cases h

section
variable {E : Env} (hE : E.F = .not) (fr : Nat → AV)
include hE
theorem storeV_depth {s s' : St} {v : AV} {a : Loc} {off : Nat} {vs : List AV} (h : storeV E s .ok a off vs = .ok v s') : s'.depth = s.depth := by
  simp only [storeV, hE, Force.not] at h
  split at h
  · cases hb : (Nat.ble (off + vs.length) _ && s.takes a vs && vs.all AV.isCell) with
    | false => rw [hb] at h; cases h
    | true =>
      rw [hb, cond_true] at h
      split at h
      · rename_i hset
        simp only [Res.ok.injEq] at h
        rw [← h.2]
        exact St.set_depth hset
      · cases h
  · cases h
theorem callV_depth {s s' : St} {v : AV} {f : Nat} {args : List AV} (h : callV E s .ok .panic f args = .ok v s') : s'.depth = s.depth := by
  simp only [callV] at h
  split at h
  · rename_i v' s'' hc
    cases hb : Nat.beq s''.depth s.depth with
    | false => rw [hb] at h; cases h
    | true =>
      rw [hb, cond_true] at h
      simp only [Res.ok.injEq] at h
      rw [← h.2]
      exact Nat.eq_of_beq_eq_true hb
  · cases h
  · cases h
theorem callCV_ok {s s' : St} {v : AV} {xs : List (Option Nat × AV)} {f : Nat} {args : List AV} (h : callCV E s .ok .panic xs f args = .ok v s') : callV E s .ok .panic f args = .ok v s' ∧ ∀ x, x ∈ xs → ∃ l, cellsAt s x.1 x.2 = some l ∧ cellsAt s' x.1 x.2 = some l := by
  simp only [callCV, callV] at h ⊢
  cases hc : E.call f args s <;> rw [hc] at h <;> try cases h
  rename_i v' s''
  simp only at h ⊢
  cases hb : Nat.beq s''.depth s.depth with
  | false => rw [hb] at h; cases h
  | true =>
    rw [hb, cond_true] at h
    cases ha : xs.all fun x => sameO (cellsAt s x.1 x.2) (cellsAt s'' x.1 x.2) with
    | false => rw [ha] at h; cases h
    | true =>
      rw [ha, cond_true] at h
      simp only [Res.ok.injEq] at h
      obtain ⟨rfl, rfl⟩ := h
      refine ⟨by simp, fun x hx => ?_⟩
      exact sameO_eq.1 (List.all_eq_true.1 ha x hx)
theorem bif_ok {b : Bool} {x : Res} {v : AV} {s' : St} (h : (bif b then x else .fail) = .ok v s') : x = .ok v s' := by
  cases b with
  | true => exact h
  | false => cases h
theorem copyV_depth {s s' : St} {v : AV} {d x : AV} (h : copyV E s .ok d x = .ok v s') : s'.depth = s.depth := by
  simp only [copyV, hE, Force.not] at h
  split at h
  · split at h
    · split at h
      · have h := bif_ok hE h
        split at h
        · rename_i hset
          simp only [Res.ok.injEq] at h
          rw [← h.2]
          exact St.set_depth hset
        · cases h
      · cases h
    · cases h
  · cases h
theorem appendRV_depth {s s' : St} {v : AV} {q b : Nat} {l : Loc} {x y : AV} (h : appendRV E s .ok q b l x y = .ok v s') : s'.depth = s.depth := by
  simp only [appendRV, hE, Force.not] at h
  split at h
  · split at h
    · have h := bif_ok hE h
      split at h
      · cases h
      · split at h
        · have h := bif_ok hE h
          split at h
          · rename_i hby; simp only [Res.ok.injEq] at h; rw [← h.2]; exact St.newBy_depth hby
          · cases h
        · split at h
          · have h := bif_ok hE h
            split at h
            · rename_i hset
              simp only [Res.ok.injEq] at h
              rw [← h.2]
              exact St.set_depth hset
            · cases h
          · cases h
        · cases h
    · cases h
  · cases h
theorem appendV_depth {s s' : St} {v : AV} {q b : Nat} {l : Loc} {x y : AV} (h : appendV E s .ok q b l x y = .ok v s') : s'.depth = s.depth := by
  simp only [appendV, hE, Force.not] at h
  split at h
  · cases h
  · split at h
    · have h := bif_ok hE h
      split at h
      · simp only [Res.ok.injEq] at h; rw [← h.2]
      · split at h
        · split at h
          · rename_i hby; simp only [Res.ok.injEq] at h; rw [← h.2]; exact St.newBy_depth hby
          · cases h
        · split at h
          · rename_i hby; simp only [Res.ok.injEq] at h; rw [← h.2]; exact St.newBy_depth hby
          · cases h
        · split at h
          · have h := bif_ok hE h
            split at h
            · rename_i hset
              simp only [Res.ok.injEq] at h
              rw [← h.2]
              exact St.set_depth hset
            · cases h
          · cases h
        · cases h
    · split at h
      · have h := bif_ok hE h
        split at h
        · rename_i hset
          simp only [Res.ok.injEq] at h
          rw [← h.2]
          exact St.set_depth hset
        · cases h
      · cases h
    · cases h
/-- No operation leaves its frame. -/
theorem step_depth {op : AOp} {s s' : St} {v : AV} (h : stepOp E fr s .ok .panic op = .ok v s') : s'.depth = s.depth := by
  by_cases h0 : op.cls = 0
  · obtain ⟨o, ho⟩ := step_free hE fr h0 s.depth
    rw [ho s _ _ rfl] at h
    cases o <;> simp [optK] at h
    rw [h.2]
  by_cases h1 : op.cls = 1
  · rw [step_reads hE fr h1 h]
  cases op <;> simp only [AOp.cls] at h0 h1 <;> first | exact absurd trivial h0 | exact absurd trivial h1 | skip
  all_goals simp only [stepOp] at h
  case moveF x =>
    unfold moveFV at h
    split at h
    · split at h
      · simp only [hE, Force.not] at h
        have h := bif_ok hE h
        simp only [Res.ok.injEq] at h
        rw [← h.2]
        rfl
      · cases h
    · cases h
  case alloc z =>
    simp only [hE, Force.not, Res.ok.injEq] at h
    rw [← h.2]; rfl
  case boxMut x =>
    simp only [hE, Force.not] at h
    have h := bif_ok hE h
    simp only [Res.ok.injEq] at h
    rw [← h.2]; rfl
  case store n a u =>
    unfold storeOp at h
    split at h
    · exact storeV_depth hE (bif_ok hE h)
    · cases h
  case makeSlice z b l c =>
    unfold makeV at h
    split at h
    · split at h
      · simp only [hE, Force.not] at h
        have h := bif_ok hE h
        simp only [Res.ok.injEq] at h
        rw [← h.2]; rfl
      · cases h
    · cases h
  case call f xs =>
    simp only [hE, Force.not] at h
    exact callV_depth hE h
  case callV f xs =>
    unfold callFV at h
    split at h
    · simp only [hE, Force.not] at h
      exact callV_depth hE h
    · cases h
  case callC ks f xs =>
    simp only [hE, Force.not] at h
    exact callV_depth hE (callCV_ok hE h).1
  case callVC ks f xs =>
    unfold callFCV at h
    split at h
    · simp only [hE, Force.not] at h
      exact callV_depth hE (callCV_ok hE h).1
    · cases h
  case append =>
    unfold appendOp at h
    split at h
    · exact appendV_depth hE h
    · cases h
  case appendR =>
    unfold appendROp at h
    split at h
    · exact appendRV_depth hE h
    · cases h
  case buildSliceR =>
    unfold buildSliceRV at h
    simp only [hE, Force.not] at h
    have h := bif_ok hE h
    simp only [Res.ok.injEq] at h
    rw [← h.2]; rfl
  case appendS =>
    unfold appendSOp at h
    split at h
    · unfold appendOp at h
      split at h
      · exact appendV_depth hE h
      · cases h
    · cases h
  case makeMap =>
    unfold makeMapV at h
    split at h
    · split at h
      · rename_i hby
        simp only [hE, Force.not, Res.ok.injEq] at h
        rw [← h.2]
        exact St.newBy_depth hby
      · cases h
    · cases h
  case mapPut kd m x u =>
    unfold mapPutV at h
    split at h
    · split at h
      · have h := bif_ok hE h
        split at h
        · split at h
          · rename_i hset
            simp only [hE, Force.not, Res.ok.injEq] at h
            rw [← h.2]
            exact St.set_depth hset
          · cases h
        · cases h
      · cases h
    · cases h
  case copy q d x =>
    unfold copyOp at h
    split at h
    · exact copyV_depth hE (bif_ok hE h)
    · cases h
end
end Go.Ab
end
section
/- A region's operations in another order. -/
namespace Go.Ab
set_option linter.unusedSimpArgs false
set_option linter.unusedSectionVars false

theorem bound_congr {G g g' : Nat → AV} {o : Option AOpd} {d : Nat} (h : ∀ x, x ∈ o.toList → opnd G g x = opnd G g' x) : bound G g o d = bound G g' o d := by
  cases o with
  | none => rfl
  | some x => simp only [bound, h x (by simp)]
theorem fillParts_congr {G g g' : Nat → AV} {d : Nat} : ∀ (ps : List (Nat × Nat × AOpd)) (cs : List AV), (∀ x, x ∈ ps.map (·.2.2) → opnd G g x = opnd G g' x) → fillParts G d g cs ps = fillParts G d g' cs ps
  | [], _, _ => rfl
  | (off, sz, x) :: ps, cs, h => by
    simp only [fillParts, h x (by simp)]
    congr 1
    exact fillParts_congr ps _ (fun y hy => h y (by simp only [List.map_cons, List.mem_cons]; exact .inr hy))
theorem map_congr {G g g' : Nat → AV} {f : AV → AV} (xs : List AOpd) (h : ∀ x, x ∈ xs → opnd G g x = opnd G g' x) : xs.map (fun x => f (opnd G g x)) = xs.map fun x => f (opnd G g' x) := List.map_congr_left fun x hx => by rw [h x hx]

theorem step_congr {E : Env} {g g' : Nat → AV} {op : AOp} (h : ∀ x, x ∈ op.opds → opnd E.glob g x = opnd E.glob g' x) (s : St) (k kp : AV → St → Res) : stepOp E g s k kp op = stepOp E g' s k kp op := by
  cases op <;> simp only [AOp.opds, List.mem_cons, List.not_mem_nil, or_false, forall_eq_or_imp, forall_eq, List.mem_append] at h <;> simp only [stepOp]
  case build z ps => rw [fillParts_congr ps z h]
  case buildSlice sz ps =>
    have : ps.map (opnd E.glob g) = ps.map (opnd E.glob g') := List.map_congr_left h
    rw [this]
  case mkFunc f xs => rw [map_congr xs h]
  case call f xs => rw [map_congr xs h]
  case callP f xs => rw [map_congr xs h]
  case min xs => rw [map_congr xs h]
  case max xs => rw [map_congr xs h]
  case callV f xs => rw [h.1, map_congr xs h.2]
  case callVP f xs => rw [h.1, map_congr xs h.2]
  case subStr x lo hi =>
    unfold subStrV
    rw [h.1]
    cases opnd E.glob g' x <;> try rfl
    simp only
    rw [bound_congr (o := lo) (fun x hx => h.2 x (.inl hx)), bound_congr (o := hi) (fun x hx => h.2 x (.inr hx))]
  case slice z x lo hi mx =>
    unfold sliceV
    rw [h.1]
    have e1 : ∀ d, bound E.glob g lo d = bound E.glob g' lo d := fun d => bound_congr (fun x hx => h.2 x (.inl (.inl hx)))
    have e2 : ∀ d, bound E.glob g hi d = bound E.glob g' hi d := fun d => bound_congr (fun x hx => h.2 x (.inl (.inr hx)))
    have e3 : ∀ d, bound E.glob g mx d = bound E.glob g' mx d := fun d => bound_congr (fun x hx => h.2 x (.inr hx))
    cases opnd E.glob g' x <;> try rfl
    · simp only [e1, e2]
      cases mx with
      | none => rfl
      | some y =>
        have := h.2 y (.inr (by simp))
        simp only [this]
    · simp only [e1, e2, e3]
  case append q b at_ x y =>
    have e1 : atLoc E.glob g at_ = atLoc E.glob g' at_ := by
      cases at_ with
      | none => rfl
      | some z => simp only [atLoc, h z (.inl (by simp))]
    rw [e1, h x (.inr (.inl rfl)), h y (.inr (.inr rfl))]
  case appendR q b at_ x y =>
    have e1 : atLoc E.glob g at_ = atLoc E.glob g' at_ := by
      cases at_ with
      | none => rfl
      | some z => simp only [atLoc, h z (.inl (by simp))]
    rw [e1, h x (.inr (.inl rfl)), h y (.inr (.inr rfl))]
  case buildSliceR sz ps => rw [map_congr ps h]
  case appendS q b at_ x y =>
    have e1 : atLoc E.glob g at_ = atLoc E.glob g' at_ := by
      cases at_ with
      | none => rfl
      | some z => simp only [atLoc, h z (.inl (by simp))]
    rw [e1, h x (.inr (.inl rfl)), h y (.inr (.inr rfl))]
  case sliceA z n x lo hi mx =>
    unfold sliceAV
    rw [h.1]
    have e1 : ∀ d, bound E.glob g lo d = bound E.glob g' lo d := fun d => bound_congr (fun x hx => h.2 x (.inl (.inl hx)))
    have e2 : ∀ d, bound E.glob g hi d = bound E.glob g' hi d := fun d => bound_congr (fun x hx => h.2 x (.inl (.inr hx)))
    have e3 : ∀ d, bound E.glob g mx d = bound E.glob g' mx d := fun d => bound_congr (fun x hx => h.2 x (.inr hx))
    simp only [e1, e2, e3]
  case callC ks f xs =>
    have e1 : (ks.map fun x => (x.1, opnd E.glob g x.2)) = ks.map fun x => (x.1, opnd E.glob g' x.2) := List.map_congr_left fun x hx => by rw [h x.2 (.inl (List.mem_map.2 ⟨x, hx, rfl⟩))]
    rw [map_congr xs (fun x hx => h x (.inr hx)), e1]
  case callVC ks f xs =>
    have e1 : (ks.map fun x => (x.1, opnd E.glob g x.2)) = ks.map fun x => (x.1, opnd E.glob g' x.2) := List.map_congr_left fun x hx => by rw [h.2 x.2 (.inl (List.mem_map.2 ⟨x, hx, rfl⟩))]
    rw [h.1, map_congr xs (fun x hx => h.2 x (.inr hx)), e1]
  case makeMap at_ =>
    have e1 : atLoc E.glob g at_ = atLoc E.glob g' at_ := by
      cases at_ with
      | none => rfl
      | some z => simp only [atLoc, h z (by simp)]
    rw [e1]
  all_goals first | rfl | simp only [h]

def upd (g : Nat → AV) (d : Option Nat) (v : AV) : Nat → AV :=
  match d with
  | none => g
  | some n => fun m => if m = n then v else g m
def wantedF (gd : Option (Nat × Bool)) (g : Nat → AV) : Option Bool :=
  match gd with
  | none => some true
  | some (t, w) =>
    match g t with
    | .bool b => some (b == w)
    | .tup _ => some false
    | _ => none
/-- What an operation leaves. -/
def eff (E : Env) (o : AOper) (g : Nat → AV) (s : St) : Option (AV × St) :=
  match wantedF o.guard g with
  | none => none
  | some false => some (.tup [], s)
  | some true =>
    match stepOp E g s .ok .panic o.op with
    | .ok v s' => some (v, s')
    | _ => none
def runF (E : Env) : List AOper → (Nat → AV) → St → Option ((Nat → AV) × St)
  | [], g, s => some (g, s)
  | o :: os, g, s => (eff E o g s).bind fun p => runF E os (upd g o.dst p.1) p.2

def AOpd.tmp : AOpd → List Nat
  | .t n => [n]
  | .at m b' _ => [m, b']
  | .adv b' _ => [b']
  | _ => []
def AOper.looks (o : AOper) : List Nat := o.op.opds.flatMap AOpd.tmp ++ (o.guard.map (·.1)).toList

def AOpd.same : AOpd → AOpd → Bool
  | .t n, .t m => Nat.beq n m
  | .g n, .g m => Nat.beq n m
  | .at _ b o, .adv b' o' => Nat.beq b b' && Nat.beq o o'
  | _, _ => false
theorem AOpd.same_eq {a b : AOpd} (h : a.same b = true) (G g : Nat → AV) : opnd G g a = .dead ∨ opnd G g a = opnd G g b := by
  cases a <;> cases b <;> simp [AOpd.same] at h
  · rw [h]; exact .inr rfl
  · rw [h]; exact .inr rfl
  · rw [h.1, h.2]
    rename_i t _ _ b off
    rcases atV_or (g t) (g b) off with e | ⟨_, e⟩
    · exact .inl e
    · exact .inr e
def sameN : Option Nat → Option Nat → Bool
  | none, none => true
  | some a, some b => Nat.beq a b
  | _, _ => false
theorem sameN_eq {a b : Option Nat} (h : sameN a b = true) : a = b := by
  cases a <;> cases b <;> simp [sameN] at h <;> simp [h]
/-- Does the second leave what the first loads? -/
def leaves (a b : AOp) : Bool :=
  match a with
  | .load n x =>
    match b with
    | .callC ks _ _ | .callVC ks _ _ => ks.any fun y => sameN n y.1 && x.same y.2
    | .appendS .. => true
    | _ => false
  | _ => false
/-- May two operations change places? -/
def indep (a b : AOper) : Bool :=
  (match a.dst with
    | some d => !b.looks.contains d
    | none => true) &&
  (match b.dst with
    | some d => !a.looks.contains d
    | none => true) &&
  (match a.dst, b.dst with
    | some d, some e => !Nat.beq d e
    | _, _ => true) &&
  (Nat.beq a.op.cls 0 || Nat.beq b.op.cls 0 || (Nat.beq a.op.cls 1 && Nat.beq b.op.cls 1) || leaves a.op b.op || leaves b.op a.op)

theorem opnd_upd {G g : Nat → AV} {d : Option Nat} {v : AV} {x : AOpd} (h : ∀ n, d = some n → n ∉ x.tmp) : opnd G (upd g d v) x = opnd G g x := by
  cases d with
  | none => rfl
  | some n =>
    have h' := h n rfl
    cases x <;> try rfl
    · rename_i t
      have : n ≠ t := by simpa [AOpd.tmp] using h'
      simp [opnd, upd, Ne.symm this]
    · rename_i t b off
      have : n ≠ t ∧ n ≠ b := by simpa [AOpd.tmp, not_or] using h'
      simp [opnd, upd, Ne.symm this.1, Ne.symm this.2]
    · rename_i b off
      have : n ≠ b := by simpa [AOpd.tmp] using h'
      simp [opnd, upd, Ne.symm this]
theorem eff_upd {E : Env} {o : AOper} {g : Nat → AV} {d : Option Nat} {v : AV} (h : ∀ n, d = some n → n ∉ o.looks) (s : St) : eff E o (upd g d v) s = eff E o g s := by
  have h1 : wantedF o.guard (upd g d v) = wantedF o.guard g := by
    unfold wantedF
    cases hg : o.guard with
    | none => rfl
    | some p =>
      obtain ⟨t, w⟩ := p
      cases d with
      | none => rfl
      | some n =>
        have : n ≠ t := fun e => h n rfl (by rw [AOper.looks, hg]; simp [e])
        simp [upd, Ne.symm this]
  unfold eff
  rw [h1, step_congr (g' := g) (fun x hx => opnd_upd (fun n hn hx' => h n hn (by
    rw [AOper.looks]
    exact List.mem_append_left _ (List.mem_flatMap.2 ⟨x, hx, hx'⟩))))]
theorem upd_comm {g : Nat → AV} {d e : Option Nat} {v u : AV} (h : ∀ n m, d = some n → e = some m → n ≠ m) : upd (upd g d v) e u = upd (upd g e u) d v := by
  cases d with
  | none => rfl
  | some n =>
    cases e with
    | none => rfl
    | some m =>
      have := h n m rfl rfl
      funext t
      simp only [upd]
      by_cases h1 : t = m
      · by_cases h2 : t = n
        · exact absurd (h2.symm.trans h1) this
        · simp [h1, Ne.symm this]
      · simp [h1]

section
variable {E : Env} (hE : E.F = .not)
include hE
theorem eff_free {o : AOper} (hc : o.op.cls = 0) {g : Nat → AV} {s s' : St} {v : AV} (h : eff E o g s = some (v, s')) : s' = s ∧ ∀ s₂ : St, s₂.depth = s.depth → eff E o g s₂ = some (v, s₂) := by
  unfold eff at h ⊢
  cases hw : wantedF o.guard g with
  | none => rw [hw] at h; cases h
  | some b =>
    rw [hw] at h
    cases b with
    | false =>
      simp only [Option.some.injEq, Prod.mk.injEq] at h
      exact ⟨h.2.symm, fun s₂ _ => by rw [← h.1]⟩
    | true =>
      simp only at h
      obtain ⟨x, hx⟩ := step_free hE g hc s.depth
      rw [hx s _ _ rfl] at h
      cases x with
      | none => simp [optK] at h
      | some y =>
        simp only [optK, Option.some.injEq, Prod.mk.injEq] at h
        refine ⟨h.2.symm, fun s₂ hd => ?_⟩
        simp only
        rw [hx s₂ _ _ hd]
        simp [optK, h.1]
theorem eff_reads {o : AOper} (hc : o.op.cls = 1) {g : Nat → AV} {s s' : St} {v : AV} (h : eff E o g s = some (v, s')) : s' = s := by
  unfold eff at h
  cases hw : wantedF o.guard g with
  | none => rw [hw] at h; cases h
  | some b =>
    rw [hw] at h
    cases b with
    | false => simp only [Option.some.injEq, Prod.mk.injEq] at h; exact h.2.symm
    | true =>
      simp only at h
      split at h
      · rename_i v' s'' hst
        simp only [Option.some.injEq, Prod.mk.injEq] at h
        rw [← h.2]
        exact step_reads hE g hc hst
      · cases h
theorem eff_depth {o : AOper} {g : Nat → AV} {s s' : St} {v : AV} (h : eff E o g s = some (v, s')) : s'.depth = s.depth := by
  unfold eff at h
  cases hw : wantedF o.guard g with
  | none => rw [hw] at h; cases h
  | some b =>
    rw [hw] at h
    cases b with
    | false => simp only [Option.some.injEq, Prod.mk.injEq] at h; rw [h.2]
    | true =>
      simp only at h
      split at h
      · rename_i v' s'' hst
        simp only [Option.some.injEq, Prod.mk.injEq] at h
        rw [← h.2]
        exact step_depth hE g hst
      · cases h

theorem loadV_cells {n : Option Nat} {cs cs' : List AV} {s s' : St} {u : AV} {t : St} (h : cs.take (n.getD 1) = cs'.take (n.getD 1)) (hl : loadV E s .ok n cs = .ok u t) : loadV E s' .ok n cs' = .ok u s' := by
  cases n with
  | none =>
    simp only [Option.getD_none] at h
    cases cs with
    | nil => simp [loadV] at hl
    | cons c cs =>
      cases cs' with
      | nil => simp at h
      | cons c' cs' =>
        simp only [List.take_succ_cons, List.take_zero, List.cons.injEq, and_true] at h
        subst h
        simp only [loadV, hE, Force.not, Res.ok.injEq] at hl ⊢
        exact ⟨hl.1, trivial⟩
  | some n =>
    simp only [Option.getD_some] at h
    simp only [loadV, hE, Force.not] at hl ⊢
    cases hb : Nat.ble n cs.length with
    | false => rw [hb] at hl; cases hl
    | true =>
      rw [hb, cond_true] at hl
      simp only [Res.ok.injEq] at hl
      have h1 := Nat.le_of_ble_eq_true hb
      have h2 : n ≤ cs'.length := by
        have := congrArg List.length h
        simp only [List.length_take] at this
        omega
      rw [show Nat.ble n cs'.length = true from Nat.ble_eq_true_of_le h2, cond_true, ← h, hl.1]
theorem loadOp_cells {n : Option Nat} {v : AV} {s s' : St} {l : List AV} {u : AV} {t : St} (h1 : cellsAt s n v = some l) (h2 : cellsAt s' n v = some l) (hl : loadOp E s .ok n v = .ok u t) : loadOp E s' .ok n v = .ok u s' := by
  unfold cellsAt at h1 h2
  cases v <;> simp only [cellsOf] at h1 h2 <;> try cases h1
  case vptr cs => exact loadV_cells hE rfl hl
  case ref a off =>
    simp only [loadOp] at hl ⊢
    cases hg : s.get a with
    | none => rw [hg] at h1; cases h1
    | some o =>
      rw [hg] at h1 hl
      cases o <;> try cases h1
      rename_i cs
      cases hg' : s'.get a with
      | none => rw [hg'] at h2; cases h2
      | some o' =>
        rw [hg'] at h2
        cases o' <;> try cases h2
        rename_i cs'
        simp only [Option.map_some, Option.some.injEq] at h2
        exact loadV_cells hE h2.symm hl
theorem loadOp_of {s : St} {n : Option Nat} {v : AV} {k : AV → St → Res} : loadOp E s k n v = match cellsOf s v with | some cs => loadV E s k n cs | none => .fail := by
  cases v <;> simp only [loadOp, cellsOf]
  split <;> rfl
theorem loadOp_same {s s' : St} {n : Option Nat} {v u : AV} {t : St} (h : cellsOf s v = cellsOf s' v) (hl : loadOp E s .ok n v = .ok u t) : loadOp E s' .ok n v = .ok u s' := by
  rw [loadOp_of hE, h] at hl
  rw [loadOp_of hE]
  cases hc : cellsOf s' v with
  | none => rw [hc] at hl; cases hl
  | some cs =>
    rw [hc] at hl
    exact loadV_cells hE rfl hl
/-- An append to what holds no object leaves all cells. -/
theorem cellsOf_tok {s s' : St} (h : ∀ d i, s'.get (.g d i) = s.get (.g d i) ∨ ((∀ cs, s.get (.g d i) ≠ some (.cells cs)) ∧ ∀ cs, s'.get (.g d i) ≠ some (.cells cs))) (hd : s'.depth = s.depth) (v : AV) : cellsOf s v = cellsOf s' v := by
  cases v <;> simp only [cellsOf]
  rename_i a off
  have e1 := St.get_pub s a
  have e2 := St.get_pub s' a
  rw [hd] at e2
  cases hp : a.pub s.depth with
  | l i => cases a <;> simp [Loc.pub] at hp
  | g d i =>
    rw [hp] at e1 e2
    rw [← e1, ← e2]
    rcases h d i with e | ⟨n1, n2⟩
    · rw [e]
    · cases h1 : s.get (.g d i) with
      | none =>
        cases h2 : s'.get (.g d i) with
        | none => rfl
        | some o =>
          cases o <;> try rfl
          exact absurd h2 (n2 _)
      | some o =>
        cases o
        · exact absurd h1 (n1 _)
        all_goals
          cases h2 : s'.get (.g d i) with
          | none => rfl
          | some o =>
            cases o <;> try rfl
            exact absurd h2 (n2 _)
theorem appendS_cells {q b : Nat} {l : Loc} {sz : Nat} {es : List AV} {g : Gr} {y : AV} {s s' : St} {v : AV} (h : appendV E s .ok q b l (.sl sz es g) y = .ok v s') (w : AV) : cellsOf s w = cellsOf s' w := by
  simp only [appendV, hE, Force.not] at h
  split at h
  · cases h
  · rename_i z new _
    have h := bif_ok hE h
    cases new with
    | nil => simp only [Res.ok.injEq] at h; rw [h.2]
    | cons c cs =>
      have new : ∀ {o : AObj} {l' : Loc} {s'' : St}, (∀ cs, o ≠ .cells cs) → s.newBy l o = some (l', s'') → cellsOf s w = cellsOf s'' w := fun {o l' s''} ho hn => by
        obtain ⟨d, i, _, hat⟩ := NewAt.by hn
        refine cellsOf_tok hE (fun d' i' => ?_) hat.depth w
        rw [hat.get]
        split
        · rename_i hdi
          obtain ⟨rfl, rfl⟩ := hdi
          obtain ⟨lf, h1, h2⟩ := hat.here
          refine .inr ⟨fun cs hc => ?_, fun cs hc => ho cs (Option.some.inj hc)⟩
          rw [St.get_g, h1] at hc
          simp only [Option.bind_some] at hc
          rw [← h2, List.getElem?_eq_none (Nat.le_refl _)] at hc
          cases hc
        · exact .inl rfl
      cases g with
      | any => cases h
      | nil =>
        simp only at h
        split at h
        · rename_i hn
          simp only [Res.ok.injEq] at h
          rw [← h.2]
          exact new (fun cs e => by cases e) hn
        · cases h
      | exact =>
        simp only at h
        split at h
        · rename_i hn
          simp only [Res.ok.injEq] at h
          rw [← h.2]
          exact new (fun cs e => by cases e) hn
        · cases h
      | buf a =>
        simp only at h
        split at h
        · rename_i n hget
          have h := bif_ok hE h
          split at h
          · rename_i hset
            simp only [Res.ok.injEq] at h
            rw [← h.2]
            have hset' := hset
            have hget' := hget
            rw [← St.set_pub] at hset'
            rw [← St.get_pub] at hget'
            cases hp : a.pub s.depth with
            | l i => cases a <;> simp [Loc.pub] at hp
            | g d i =>
              rw [hp] at hset' hget'
              refine cellsOf_tok hE (fun d' i' => ?_) (St.set_depth hset) w
              rw [St.set_get hset' hget']
              split
              · rename_i hdi
                obtain ⟨rfl, rfl⟩ := hdi
                refine .inr ⟨fun cs hc => ?_, fun cs hc => by cases hc⟩
                rw [hget'] at hc
                cases hc
              · exact .inl rfl
          · cases h
        · cases h
theorem leaves_cells {a b : AOp} (h : leaves a b = true) {g : Nat → AV} {s s' : St} {v : AV} (hb : stepOp E g s .ok .panic b = .ok v s') : ∃ n x, a = .load n x ∧ (cellsOf s (opnd E.glob g x) = cellsOf s' (opnd E.glob g x) ∨ opnd E.glob g x = .dead ∨ ∃ l, cellsAt s n (opnd E.glob g x) = some l ∧ cellsAt s' n (opnd E.glob g x) = some l) := by
  unfold leaves at h
  split at h
  · rename_i n x
    refine ⟨n, x, rfl, ?_⟩
    have key : ∀ (ks : List (Option Nat × AOpd)), (ks.any fun y => sameN n y.1 && x.same y.2) = true → (∀ y, y ∈ ks.map (fun x => (x.1, opnd E.glob g x.2)) → ∃ l, cellsAt s y.1 y.2 = some l ∧ cellsAt s' y.1 y.2 = some l) → opnd E.glob g x = .dead ∨ ∃ l, cellsAt s n (opnd E.glob g x) = some l ∧ cellsAt s' n (opnd E.glob g x) = some l := fun ks h1 h2 => by
      obtain ⟨y, hy, hy'⟩ := List.any_eq_true.1 h1
      simp only [Bool.and_eq_true] at hy'
      rcases AOpd.same_eq hy'.2 E.glob g with e | e
      · exact .inl e
      rw [sameN_eq hy'.1, e]
      exact .inr (h2 _ (List.mem_map.2 ⟨y, hy, rfl⟩))
    split at h
    · rename_i ks f args
      simp only [stepOp, hE, Force.not] at hb
      exact .inr (key ks h (callCV_ok hE hb).2)
    · rename_i ks f args
      simp only [stepOp] at hb
      unfold callFCV at hb
      split at hb
      · simp only [hE, Force.not] at hb
        exact .inr (key ks h (callCV_ok hE hb).2)
      · cases hb
    · rename_i q b at_ x y
      simp only [stepOp] at hb
      unfold appendSOp at hb
      split at hb
      · unfold appendOp at hb
        split at hb
        · exact .inl (appendS_cells hE hb _)
        · cases hb
      · cases hb
    · cases h
  · cases h
/-- What is loaded is the same before and behind an operation that leaves it. -/
theorem eff_leaves {a b : AOper} (h : leaves a.op b.op = true) {g : Nat → AV} {s s' : St} {v : AV} (hb : eff E b g s = some (v, s')) {u : AV} : eff E a g s = some (u, s) ↔ eff E a g s' = some (u, s') := by
  unfold eff at hb
  cases hw : wantedF b.guard g with
  | none => rw [hw] at hb; cases hb
  | some w =>
    rw [hw] at hb
    cases w with
    | false => simp only [Option.some.injEq, Prod.mk.injEq] at hb; rw [hb.2]
    | true =>
      simp only at hb
      split at hb
      · rename_i v' s'' hst
        simp only [Option.some.injEq, Prod.mk.injEq] at hb
        rw [hb.2] at hst
        obtain ⟨n, x, ha, hor⟩ := leaves_cells hE h hst
        unfold eff
        cases hwa : wantedF a.guard g with
        | none => simp
        | some w =>
          cases w with
          | false => simp
          | true =>
            simp only [ha, stepOp]
            rcases hor with e0 | e | ⟨l, h1, h2⟩
            · constructor
              · intro hq
                split at hq
                · rename_i hst'
                  simp only [Option.some.injEq, Prod.mk.injEq] at hq
                  rw [loadOp_same hE e0 hst', hq.1]
                · cases hq
              · intro hq
                split at hq
                · rename_i hst'
                  simp only [Option.some.injEq, Prod.mk.injEq] at hq
                  rw [loadOp_same hE e0.symm hst', hq.1]
                · cases hq
            · rw [e]; simp [loadOp]
            constructor
            · intro hq
              split at hq
              · rename_i hst'
                simp only [Option.some.injEq, Prod.mk.injEq] at hq
                rw [loadOp_cells hE h1 h2 hst', hq.1]
              · cases hq
            · intro hq
              split at hq
              · rename_i hst'
                simp only [Option.some.injEq, Prod.mk.injEq] at hq
                rw [loadOp_cells hE h2 h1 hst', hq.1]
              · cases hq
      · cases hb
theorem leaves_cls {a b : AOp} (h : leaves a b = true) : a.cls = 1 := by
  unfold leaves at h
  split at h
  · rfl
  · cases h

theorem run_swap {a b : AOper} (hi : indep a b = true) {rest : List AOper} {g : Nat → AV} {s : St} {r : (Nat → AV) × St} (h : runF E (a :: b :: rest) g s = some r) : runF E (b :: a :: rest) g s = some r := by
  simp only [indep, Bool.and_eq_true, Bool.or_eq_true] at hi
  obtain ⟨⟨⟨h1, h2⟩, h3⟩, h4⟩ := hi
  have d1 : ∀ n, a.dst = some n → n ∉ b.looks := fun n hn => by rw [hn] at h1; simpa using h1
  have d2 : ∀ n, b.dst = some n → n ∉ a.looks := fun n hn => by rw [hn] at h2; simpa using h2
  have d3 : ∀ n m, a.dst = some n → b.dst = some m → n ≠ m := fun n m hn hm e => by
    rw [hn, hm, e] at h3
    simp at h3
  simp only [runF] at h ⊢
  cases ha : eff E a g s with
  | none => rw [ha] at h; cases h
  | some p =>
    obtain ⟨va, s1⟩ := p
    rw [ha] at h
    simp only [Option.bind_some] at h
    cases hb : eff E b (upd g a.dst va) s1 with
    | none => rw [hb] at h; cases h
    | some q =>
      obtain ⟨vb, s2⟩ := q
      rw [hb] at h
      simp only [Option.bind_some] at h
      rw [eff_upd d1] at hb
      have key : ∃ S, eff E b g s = some (vb, S) ∧ eff E a g S = some (va, s2) := by
        by_cases hc : a.op.cls = 0
        · refine ⟨s2, ?_⟩
          obtain ⟨e1, e2⟩ := eff_free hE hc ha
          subst e1
          exact ⟨hb, e2 s2 (eff_depth hE hb)⟩
        · by_cases hc2 : b.op.cls = 0
          · refine ⟨s, ?_⟩
            obtain ⟨e1, e2⟩ := eff_free hE hc2 hb
            subst e1
            exact ⟨e2 s (eff_depth hE ha).symm, ha⟩
          · rcases h4 with (((h4 | h4) | h4) | h4) | h4
            · exact absurd (Nat.eq_of_beq_eq_true h4) hc
            · exact absurd (Nat.eq_of_beq_eq_true h4) hc2
            · have e1 := eff_reads hE (Nat.eq_of_beq_eq_true h4.1) ha
              subst e1
              have e2 := eff_reads hE (Nat.eq_of_beq_eq_true h4.2) hb
              subst e2
              exact ⟨_, hb, ha⟩
            · have e1 := eff_reads hE (leaves_cls hE h4) ha
              subst e1
              exact ⟨s2, hb, (eff_leaves hE h4 hb).1 ha⟩
            · have e2 := eff_reads hE (leaves_cls hE h4) hb
              subst e2
              exact ⟨s, (eff_leaves hE h4 ha).2 hb, ha⟩
      obtain ⟨S, key1, key2⟩ := key
      rw [key1]
      simp only [Option.bind_some]
      rw [eff_upd d2, key2]
      simp only [Option.bind_some]
      rw [← upd_comm d3]
      exact h

theorem run_first {o : AOper} : ∀ (pre : List AOper) {post : List AOper} {g : Nat → AV} {s : St} {r : (Nat → AV) × St}, (∀ a, a ∈ pre → indep a o = true) → runF E (pre ++ o :: post) g s = some r → runF E (o :: (pre ++ post)) g s = some r
  | [], _, _, _, _, _, h => h
  | a :: pre, post, g, s, r, hi, h => by
    refine run_swap hE (hi a List.mem_cons_self) ?_
    simp only [List.cons_append, runF] at h ⊢
    cases ha : eff E a g s with
    | none => rw [ha] at h; cases h
    | some p =>
      rw [ha] at h
      simp only [Option.bind_some] at h ⊢
      exact run_first pre (fun x hx => hi x (List.mem_cons_of_mem _ hx)) h
end
end Go.Ab
end
section
/- A region's operations one after another. -/
namespace Go.Ab
set_option linter.unusedSimpArgs false
set_option linter.unusedSectionVars false

theorem setK_sound : ∀ (d n : Nat) (v : AV) (k : Tr → Res) (fr : Tr) (r : Res), Tr.setK d n v k fr = r → r ≠ .fail → ∃ fr', k fr' = r ∧ ∀ m, fr'.get m = if m = n then v else fr.get m
  | 0, n, v, k, fr, r, h, hf => absurd h.symm hf
  | d + 1, n, v, k, fr, r, h, hf => by
    have odd : ∀ m, Nat.beq (m % 2) 1 = true → ∃ q, m = 2 * q + 1 := fun m h => ⟨m / 2, by have := Nat.eq_of_beq_eq_true h; omega⟩
    have even : ∀ m, Nat.beq (m % 2) 1 = false → Nat.beq m 0 = false → ∃ q, m = 2 * q + 2 := fun m h h' => ⟨(m - 2) / 2, by
      have h1 : m % 2 ≠ 1 := fun e => by rw [e] at h; simp at h
      have h2 : m ≠ 0 := fun e => by rw [e] at h'; simp at h'
      omega⟩
    have getO : ∀ (l : Tr) (x : AV) (r : Tr) (q : Nat), (Tr.n l x r).get (2 * q + 1) = l.get q := fun l x r q => by
      have h1 : Nat.beq (2 * q + 1) 0 = false := by rfl
      have h2 : Nat.beq ((2 * q + 1) % 2) 1 = true := by rw [show (2 * q + 1) % 2 = 1 by omega]; rfl
      simp only [Tr.get, h1, h2, cond_false, cond_true]
      congr 1
      omega
    have getE : ∀ (l : Tr) (x : AV) (r : Tr) (q : Nat), (Tr.n l x r).get (2 * q + 2) = r.get q := fun l x r q => by
      have h1 : Nat.beq (2 * q + 2) 0 = false := by rfl
      have h2 : Nat.beq ((2 * q + 2) % 2) 1 = false := by rw [show (2 * q + 2) % 2 = 0 by omega]; rfl
      simp only [Tr.get, h1, h2, cond_false]
      congr 1
      omega
    have get0 : ∀ (l : Tr) (x : AV) (r : Tr), (Tr.n l x r).get 0 = x := fun l x r => rfl
    have cases3 : ∀ m, m = 0 ∨ (∃ q, m = 2 * q + 1) ∨ ∃ q, m = 2 * q + 2 := fun m => by
      by_cases h0 : m = 0
      · exact .inl h0
      · by_cases h1 : m % 2 = 1
        · exact .inr (.inl ⟨m / 2, by omega⟩)
        · exact .inr (.inr ⟨(m - 2) / 2, by omega⟩)
    cases fr with
    | e =>
      simp only [Tr.setK] at h
      cases h0 : Nat.beq n 0 with
      | true =>
        rw [h0, cond_true] at h
        have := Nat.eq_of_beq_eq_true h0
        subst this
        refine ⟨_, h, fun m => ?_⟩
        rcases cases3 m with rfl | ⟨q, rfl⟩ | ⟨q, rfl⟩
        · simp [get0]
        · rw [getO]; simp [Tr.get]
        · rw [getE]; simp [Tr.get]
      | false =>
        rw [h0, cond_false] at h
        cases h1 : Nat.beq (n % 2) 1 with
        | true =>
          rw [h1, cond_true] at h
          obtain ⟨p, rfl⟩ := odd n h1
          obtain ⟨l', e, hl⟩ := setK_sound d _ v _ _ r h hf
          refine ⟨_, e, fun m => ?_⟩
          rcases cases3 m with rfl | ⟨q, rfl⟩ | ⟨q, rfl⟩
          · simp [get0, Tr.get]
          · rw [getO, hl q]
            have e1 : (2 * p + 1 - 1) / 2 = p := by omega
            have e2 : 2 * q + 1 = 2 * p + 1 ↔ q = p := by omega
            simp only [e1, e2]
            simp [Tr.get]
          · rw [getE, if_neg (by omega)]; simp [Tr.get]
        | false =>
          rw [h1, cond_false] at h
          obtain ⟨p, rfl⟩ := even n h1 h0
          obtain ⟨l', e, hl⟩ := setK_sound d _ v _ _ r h hf
          refine ⟨_, e, fun m => ?_⟩
          rcases cases3 m with rfl | ⟨q, rfl⟩ | ⟨q, rfl⟩
          · simp [get0, Tr.get]
          · rw [getO, if_neg (by omega)]; simp [Tr.get]
          · rw [getE, hl q]
            have e1 : (2 * p + 2 - 1) / 2 = p := by omega
            have e2 : 2 * q + 2 = 2 * p + 2 ↔ q = p := by omega
            simp only [e1, e2]
            simp [Tr.get]
    | n l x rr =>
      simp only [Tr.setK] at h
      cases h0 : Nat.beq n 0 with
      | true =>
        rw [h0, cond_true] at h
        have := Nat.eq_of_beq_eq_true h0
        subst this
        refine ⟨_, h, fun m => ?_⟩
        rcases cases3 m with rfl | ⟨q, rfl⟩ | ⟨q, rfl⟩
        · simp [get0]
        · rw [getO, getO]; simp
        · rw [getE, getE]; simp
      | false =>
        rw [h0, cond_false] at h
        cases h1 : Nat.beq (n % 2) 1 with
        | true =>
          rw [h1, cond_true] at h
          obtain ⟨p, rfl⟩ := odd n h1
          obtain ⟨l', e, hl⟩ := setK_sound d _ v _ _ r h hf
          refine ⟨_, e, fun m => ?_⟩
          rcases cases3 m with rfl | ⟨q, rfl⟩ | ⟨q, rfl⟩
          · simp [get0]
          · rw [getO, getO, hl q]
            have e1 : (2 * p + 1 - 1) / 2 = p := by omega
            have e2 : 2 * q + 1 = 2 * p + 1 ↔ q = p := by omega
            simp only [e1, e2]
          · rw [getE, getE, if_neg (by omega)]
        | false =>
          rw [h1, cond_false] at h
          obtain ⟨p, rfl⟩ := even n h1 h0
          obtain ⟨l', e, hl⟩ := setK_sound d _ v _ _ r h hf
          refine ⟨_, e, fun m => ?_⟩
          rcases cases3 m with rfl | ⟨q, rfl⟩ | ⟨q, rfl⟩
          · simp [get0]
          · rw [getO, getO, if_neg (by omega)]
          · rw [getE, getE, hl q]
            have e1 : (2 * p + 2 - 1) / 2 = p := by omega
            have e2 : 2 * q + 2 = 2 * p + 2 ↔ q = p := by omega
            simp only [e1, e2]

def okDst (nt : Nat) : Option Nat → Option Nat → Bool
  | none, none => true
  | some a, some b => Nat.beq a b && Nat.blt a nt
  | _, _ => false
def okGuard (ops : Array Oper) : Option (Nat × Bool) → Option (Nat × Bool) → Bool
  | none, none => true
  | some (t, w), some (j, w') =>
    match (ops[j]?).bind (·.dst) with
    | some d => Nat.beq d t && w == w'
    | none => false
  | _, _ => false
def okOper (T : TT) (nt : Nat) (ops : Array Oper) (ao : AOper) (o : Oper) : Bool := okDst nt ao.dst o.dst && okGuard ops ao.guard o.guard && okOp T ao.op o.op

/-- The running frame and the world, abstract and machine's. -/
structure Run (κ : Kap) (s : St) (w : World) (g : Nat → AV) (a : Act) (nt : Nat) (G : Nat → AV) : Prop where
  sim : Sim κ s w
  fr : FR κ s g a
  defers : a.defers = []
  size : a.tmps.size = nt
  glob : GOK κ G

theorem putK_sound {fr : Tr} {d : Option Nat} {v : AV} {k : Tr → Res} {r : Res} (hr : putK fr d v k = r) (hf : r ≠ .fail) : ∃ fr', k fr' = r ∧ fr'.get = upd fr.get d v := by
  cases d with
  | none => exact ⟨fr, hr, rfl⟩
  | some n =>
    obtain ⟨fr', h1, h2⟩ := setK_sound 12 n v k fr r hr hf
    exact ⟨fr', h1, funext h2⟩

theorem wantedK_sound {g : Option (Nat × Bool)} {fr : Tr} {k : Bool → Res} {r : Res} (hr : wantedK g fr k = r) (hf : r ≠ .fail) : ∃ b, wantedF g fr.get = some b ∧ k b = r := by
  cases g with
  | none => exact ⟨true, rfl, hr⟩
  | some p =>
    obtain ⟨t, w⟩ := p
    simp only [wantedK] at hr
    simp only [wantedF]
    cases hv : fr.get t <;> rw [hv] at hr <;> simp only at hr <;> first | exact absurd hr.symm hf | exact ⟨_, rfl, hr⟩

theorem step_kp {E : Env} (hn : ∀ f args s v s', E.call f args s ≠ .panic v s') {g : Nat → AV} {s : St} {k kp kp' : AV → St → Res} (op : AOp) : stepOp E g s k kp op = stepOp E g s k kp' op := by
  have hc : ∀ f args, callV E s k kp f args = callV E s k kp' f args := fun f args => by
    unfold callV
    cases h : E.call f args s with
    | panic v s' => exact absurd h (hn _ _ _ _ _)
    | _ => rfl
  have hc' : ∀ (k : AV → St → Res) f args, callV E s k kp f args = callV E s k kp' f args := fun k f args => by
    unfold callV
    cases h : E.call f args s with
    | panic v s' => exact absurd h (hn _ _ _ _ _)
    | _ => rfl
  cases op <;> simp only [stepOp]
  case call => simp only [hc]
  case callV => unfold callFV; simp only [hc]
  case callC => simp only [callCV]; congr; funext args; exact hc' _ _ _
  case callVC => unfold callFCV callCV; congr; funext f caps; congr; funext args; exact hc' _ _ _
theorem step_nopanic {E : Env} (hE : E.F = .not) (hn : ∀ f args s v s', E.call f args s ≠ .panic v s') {g : Nat → AV} {s s' : St} {v : AV} (op : AOp) : stepOp E g s .ok .panic op ≠ .panic v s' := fun h => by
  have h1 := stepOp_bind hE g s .ok .panic op
  have h2 := stepOp_bind hE g s .ok (fun _ _ => .fail) op
  rw [h] at h2
  rw [← step_kp hn (kp := .panic) op, h] at h2
  cases h2

/-- The evaluator's run of a list of operations. -/
theorem runOps_runF {E : Env} (hE : E.F = .not) (hn : ∀ f args s v s', E.call f args s ≠ .panic v s') {fin : Tr → St → Res} {pan : AV → Tr → St → Res} {r : Res} (hf : r ≠ .fail) : ∀ (aos : List AOper) {fr : Tr} {s : St}, runOps E aos fr s fin pan = r → ∃ fr' s', runF E aos fr.get s = some (fr'.get, s') ∧ fin fr' s' = r
  | [], fr, s, h => ⟨fr, s, rfl, h⟩
  | o :: os, fr, s, h => by
    simp only [runOps] at h
    obtain ⟨b, h1, h2⟩ := wantedK_sound h hf
    cases b with
    | false =>
      simp only [cond_false] at h2
      obtain ⟨fr', h3, h4⟩ := putK_sound h2 hf
      obtain ⟨fr'', s', h5, h6⟩ := runOps_runF hE hn hf os h3
      exact ⟨fr'', s', by simp only [runF, eff, h1, Option.bind_some, ← h4, h5], h6⟩
    | true =>
      simp only [cond_true] at h2
      rw [stepOp_bind hE] at h2
      cases hst : stepOp E fr.get s .ok .panic o.op with
      | fail => rw [hst] at h2; exact absurd h2.symm hf
      | panic v s' => exact absurd hst (step_nopanic hE hn o.op)
      | ok v s' =>
        rw [hst] at h2
        simp only [Res.bind] at h2
        obtain ⟨fr', h3, h4⟩ := putK_sound h2 hf
        obtain ⟨fr'', s'', h5, h6⟩ := runOps_runF hE hn hf os h3
        exact ⟨fr'', s'', by simp only [runF, eff, h1, hst, Option.bind_some, ← h4, h5], h6⟩

section
variable {P : Program} {κ : Kap} {s : St} {w : World} {g : Nat → AV} {a : Act} {nt : Nat} {G : Nat → AV}

theorem Run.put (h : Run κ s w g a nt G) {κ' : Kap} {s' : St} {w' : World} (he : Ext κ s w κ' s' w') (hs : Sim κ' s' w') {v : AV} {x : Value} (hx : VR κ' (s.depth + 1) (v.pub s.depth) x) {d d' : Option Nat} (hd : okDst nt d d' = true) : Run κ' s' w' (upd g d v) (a.put d' x) nt G := by
  have hfr := h.fr.ext he
  cases d with
  | none =>
    cases d' with
    | none => exact ⟨hs, hfr, h.defers, h.size, h.glob.mono he.k⟩
    | some b => simp [okDst] at hd
  | some n =>
    cases d' with
    | none => simp [okDst] at hd
    | some b =>
      simp only [okDst, Bool.and_eq_true] at hd
      have e := Nat.eq_of_beq_eq_true hd.1
      subst e
      have hn : n < a.tmps.size := by rw [h.size]; have := hd.2; rw [Nat.blt_eq] at this; exact this
      refine ⟨hs, fun t => ?_, h.defers, ?_, h.glob.mono he.k⟩
      · simp only [upd]
        by_cases ht : t = n
        · subst ht
          rw [if_pos rfl, he.depth]
          simp only [Act.put, Array.getD_eq_getD_getElem?, Array.getElem?_setIfInBounds_self_of_lt hn, Option.getD_some]
          exact hx
        · rw [if_neg ht]
          have := hfr t
          simp only [Act.put, Array.getD_eq_getD_getElem?, Array.getElem?_setIfInBounds_ne (Ne.symm ht)] at this ⊢
          exact this
      · simp [Act.put, h.size]

theorem Run.skip (h : Run κ s w g a nt G) {d d' : Option Nat} (hd : okDst nt d d' = true) : Run κ s w (upd g d (.tup [])) (a.put d' undef) nt G :=
  h.put (.refl _ _ _) h.sim (v := .tup []) (x := undef) (.tup [] [] rfl (fun j c x hc => by simp at hc)) hd

/-- Is the operation carried out? The two sides agree. -/
theorem Run.wanted (h : Run κ s w g a nt G) {ops : Array Oper} {gd : Option (Nat × Bool)} {o : Oper} (hg : okGuard ops gd o.guard = true) {b : Bool} (hb : wantedF gd g = some b) : Region.wanted o (yielded ops a.tmps) = b := by
  unfold Region.wanted
  cases gd with
  | none =>
    cases hog : o.guard with
    | none => simpa [wantedF] using hb
    | some p => rw [hog] at hg; simp [okGuard] at hg
  | some p =>
    obtain ⟨t, want⟩ := p
    cases hog : o.guard with
    | none => rw [hog] at hg; simp [okGuard] at hg
    | some q =>
      obtain ⟨j, want'⟩ := q
      rw [hog] at hg
      simp only [okGuard] at hg
      split at hg
      · rename_i d hd
        simp only [Bool.and_eq_true, beq_iff_eq] at hg
        have e := Nat.eq_of_beq_eq_true hg.1
        subst e
        obtain rfl := hg.2
        have hx := h.fr d
        simp only [wantedF] at hb
        simp only [yielded, hd, Option.bind_some]
        cases hv : g d <;> rw [hv] at hb hx <;> simp only [Option.some.injEq, reduceCtorEq] at hb
        · rename_i b'
          have hb' := VR.bool_inv (b := b') hx
          have : a.tmps[d]? = some (.bool b') := by
            rw [Array.getD_eq_getD_getElem?] at hb'
            cases hq : a.tmps[d]? with
            | none => rw [hq] at hb'; cases hb'
            | some y => rw [hq] at hb'; simp only [Option.getD_some] at hb'; rw [hb']
          rw [this]
          simpa using hb
        · rename_i vs
          obtain ⟨xs, hb', _⟩ := VR.tup_inv (cs := vs) hx
          have : ∀ b, a.tmps[d]? ≠ some (.bool b) := fun b hq => by
            rw [Array.getD_eq_getD_getElem?, hq] at hb'
            cases hb'
          split
          · rename_i b' hq; exact absurd hq (this b')
          · simpa using hb
      · cases hg

variable {T : TT} (hT : T.OK P) {E : Env} (hE : E.F = .not) (hC : CallOK P E)
include hT hE hC

/-- One operation. -/
theorem oper_sound (h : Run κ s w g a nt E.glob) {ops : Array Oper} {ao : AOper} {i : Nat} {o : Oper} (hi : ops[i]? = some o) (hok : okOper T nt ops ao o = true) {v : AV} {s' : St} (hr : eff E ao g s = some (v, s'))
    {K : Act → World → Prop} {Q : Exit → Act → World → Prop} (hK : ∀ κ' w' a', Ext κ s w κ' s' w' → Run κ' s' w' (upd g ao.dst v) a' nt E.glob → K a' w') : wpOp P ops Q i K a w := by
  unfold wpOp
  simp only [hi]
  simp only [okOper, Bool.and_eq_true] at hok
  unfold eff at hr
  cases hw : wantedF ao.guard g with
  | none => rw [hw] at hr; cases hr
  | some b =>
    rw [hw] at hr
    rw [h.wanted hok.1.2 hw]
    cases b with
    | false =>
      simp only [Option.some.injEq, Prod.mk.injEq] at hr
      obtain ⟨rfl, rfl⟩ := hr
      simp only [Bool.false_eq_true, ↓reduceIte]
      exact hK κ w _ (.refl _ _ _) (h.skip hok.1.1)
    | true =>
      simp only at hr
      simp only [↓reduceIte]
      refine .inl ?_
      cases hst : stepOp E g s .ok .panic ao.op with
      | fail => rw [hst] at hr; cases hr
      | panic v s' => rw [hst] at hr; cases hr
      | ok v' s'' =>
        rw [hst] at hr
        simp only [Option.some.injEq, Prod.mk.injEq] at hr
        obtain ⟨rfl, rfl⟩ := hr
        obtain ⟨v1, s1, hk, hd⟩ := step_sound (ty := o.type) hT h.sim hE hC h.fr h.glob (by simp) hok.2 hst
        simp only [Res.ok.injEq] at hk
        obtain ⟨rfl, rfl⟩ := hk
        have eo : ∀ (R : Result Next), (∀ dst pos after guard, (execOp a.eval ⟨dst, o.op, o.type, pos, after, guard⟩).run P w = R) → (execOp a.eval o).run P w = R := fun R h => h o.dst o.pos o.after o.guard
        unfold Oper.wp
        rcases hd with ⟨x, κ', w', hx | ⟨hx, rfl⟩, he, hs', hv⟩ | ⟨f, xs, hx, hc⟩
        · rw [eo _ hx, Oper.upon_value]
          exact hK κ' w' _ he (h.put he hs' hv hok.1.1)
        · rw [eo _ hx, Oper.upon_skip]
          exact hK κ' w' _ he (h.put he hs' hv hok.1.1)
        · rw [eo _ hx, Oper.upon_enter]
          refine hc.mono fun e w' ⟨x, hex, κ', he, hs', hv⟩ => ?_
          subst hex
          exact hK κ' w' _ he (h.put he hs' hv hok.1.1)

theorem ops_sound {ops : Array Oper} {Q : Exit → Act → World → Prop} {g' : Nat → AV} {s' : St} : ∀ (l : List Nat) (aos : List AOper) {κ : Kap} {s : St} {w : World} {g : Nat → AV} {a : Act}, l.length = aos.length →
    (∀ (j i : Nat) (ao : AOper), l[j]? = some i → aos[j]? = some ao → ∃ o, ops[i]? = some o ∧ okOper T nt ops ao o = true) → Run κ s w g a nt E.glob → runF E aos g s = some (g', s') →
    (∀ κ' w' a', Ext κ s w κ' s' w' → Run κ' s' w' g' a' nt E.glob → Q .normal a' w') → wpOps P ops Q l a w
  | [], [], κ, s, w, g, a, _, _, h, hr, hQ => by
    simp only [runF, Option.some.injEq, Prod.mk.injEq] at hr
    obtain ⟨rfl, rfl⟩ := hr
    exact hQ κ w a (.refl _ _ _) h
  | [], _ :: _, _, _, _, _, _, hl, _, _, _, _ => by simp at hl
  | _ :: _, [], _, _, _, _, _, hl, _, _, _, _ => by simp at hl
  | i :: l, ao :: aos, κ, s, w, g, a, hl, hok, h, hr, hQ => by
    obtain ⟨o, hi, hoo⟩ := hok 0 i ao rfl rfl
    rw [wpOps_cons]
    simp only [runF] at hr
    cases he : eff E ao g s with
    | none => rw [he] at hr; cases hr
    | some p =>
      rw [he] at hr
      refine oper_sound hT hE hC h hi hoo he fun κ' w' a' he' h' => ?_
      exact ops_sound l aos (by simpa using hl) (fun j i ao h1 h2 => hok (j + 1) i ao (by simpa using h1) (by simpa using h2)) h' hr
        fun κ'' w'' a'' he'' h'' => hQ κ'' w'' a'' (he'.trans he'') h''
end
end Go.Ab
end
section
/- A region whose order is drawn. -/
namespace Go.Ab
set_option linter.unusedSimpArgs false
set_option linter.unusedSectionVars false

def edges (o : Oper) : List Nat := (o.after.toList.filter (Region.binds .any)).map (·.on)
def maskOf (acc : List Nat) : List Nat → Nat
  | [] => 0
  | e :: es => maskOf acc es ||| ((1 <<< e) ||| acc.getD e 0)
def masks : List Nat → List Oper → List Nat
  | acc, [] => acc
  | acc, o :: os => masks (acc ++ [maskOf acc (edges o)]) os
def okRow (bits : Nat) (b : AOper) : Nat → List AOper → Bool
  | _, [] => true
  | m, a :: as => (bits.testBit m || indep a b) && okRow bits b (m + 1) as
def okRows : List AOper → List Nat → List AOper → Bool
  | _, _, [] => true
  | pre, m :: ms, b :: bs => okRow m b 0 pre && okRows (pre ++ [b]) ms bs
  | _, [], _ :: _ => false
def okLow : Nat → List Oper → Bool
  | _, [] => true
  | i, o :: os => (edges o).all (fun e => Nat.blt e i) && okLow (i + 1) os
def okOpers (T : TT) (nt : Nat) (ops : Array Oper) : List AOper → List Oper → Bool
  | [], [] => true
  | a :: as, o :: os => okOper T nt ops a o && okOpers T nt ops as os
  | _, _ => false
/-- May the region's operations come up in any order that its edges allow? -/
def okDraw (T : TT) (nt : Nat) (ops : Array Oper) (aos : List AOper) : Bool := okOpers T nt ops aos ops.toList && okLow 0 ops.toList && okRows [] (masks [] ops.toList) aos

theorem okOpers_sound {T : TT} {nt : Nat} {ops : Array Oper} : ∀ {as : List AOper} {os : List Oper}, okOpers T nt ops as os = true → as.length = os.length ∧ ∀ (i : Nat) (a : AOper) (o : Oper), as[i]? = some a → os[i]? = some o → okOper T nt ops a o = true
  | [], [], _ => ⟨rfl, fun i a o h => by simp at h⟩
  | [], _ :: _, h => by simp [okOpers] at h
  | _ :: _, [], h => by simp [okOpers] at h
  | a :: as, o :: os, h => by
    simp only [okOpers, Bool.and_eq_true] at h
    obtain ⟨h1, h2⟩ := okOpers_sound h.2
    refine ⟨by simp [h1], fun i a' o' ha ho => ?_⟩
    cases i with
    | zero => simp at ha ho; subst ha; subst ho; exact h.1
    | succ i => exact h2 i a' o' (by simpa using ha) (by simpa using ho)
theorem okLow_sound : ∀ {i : Nat} {os : List Oper}, okLow i os = true → ∀ (j : Nat) (o : Oper), os[j]? = some o → ∀ e, e ∈ edges o → e < i + j
  | i, [], _, j, o, h => by simp at h
  | i, o' :: os, h, j, o, ho => by
    simp only [okLow, Bool.and_eq_true, List.all_eq_true] at h
    cases j with
    | zero =>
      simp at ho
      subst ho
      intro e he
      have := h.1 e he
      rw [Nat.blt_eq] at this
      omega
    | succ j =>
      intro e he
      have := okLow_sound h.2 j o (by simpa using ho) e he
      omega
theorem okRow_sound {bits : Nat} {b : AOper} : ∀ {m : Nat} {as : List AOper}, okRow bits b m as = true → ∀ (j : Nat) (a : AOper), as[j]? = some a → bits.testBit (m + j) = true ∨ indep a b = true
  | m, [], _, j, a, h => by simp at h
  | m, a' :: as, h, j, a, ha => by
    simp only [okRow, Bool.and_eq_true, Bool.or_eq_true] at h
    cases j with
    | zero => simp at ha; subst ha; exact h.1
    | succ j =>
      have := okRow_sound h.2 j a (by simpa using ha)
      rw [show m + (j + 1) = m + 1 + j by omega]
      exact this
theorem okRows_sound : ∀ {pre : List AOper} {ms : List Nat} {rest : List AOper}, okRows pre ms rest = true → ∀ (i m : Nat) (a b : AOper), pre.length ≤ i → m < i → (pre ++ rest)[m]? = some a → (pre ++ rest)[i]? = some b → (ms.getD (i - pre.length) 0).testBit m = true ∨ indep a b = true
  | pre, ms, [], _, i, m, a, b, hi, hm, ha, hb => by
    rw [List.append_nil] at hb
    have := (List.getElem?_eq_some_iff.1 hb).1
    omega
  | pre, [], b' :: bs, h, i, m, a, b, hi, hm, ha, hb => by simp [okRows] at h
  | pre, m' :: ms, b' :: bs, h, i, m, a, b, hi, hm, ha, hb => by
    simp only [okRows, Bool.and_eq_true] at h
    by_cases he : i = pre.length
    · subst he
      rw [Nat.sub_self]
      have hb' : b = b' := by simpa using hb.symm
      subst hb'
      have := okRow_sound h.1 m a (by rw [List.getElem?_append_left hm] at ha; exact ha)
      simpa using this
    · have := okRows_sound (pre := pre ++ [b']) h.2 i m a b (by simp; omega) hm (by simpa using ha) (by simpa using hb)
      have e : i - pre.length = (i - (pre ++ [b']).length) + 1 := by simp; omega
      rw [e]
      simpa using this

theorem maskOf_testBit (acc : List Nat) (m : Nat) : ∀ (es : List Nat), (maskOf acc es).testBit m = true → ∃ e, e ∈ es ∧ (m = e ∨ (acc.getD e 0).testBit m = true)
  | [], h => by simp [maskOf] at h
  | e :: es, h => by
    simp only [maskOf, Nat.testBit_or, Bool.or_eq_true] at h
    rcases h with h | h | h
    · obtain ⟨e', h1, h2⟩ := maskOf_testBit acc m es h
      exact ⟨e', List.mem_cons_of_mem _ h1, h2⟩
    · refine ⟨e, List.mem_cons_self, .inl ?_⟩
      rw [Nat.one_shiftLeft, Nat.testBit_two_pow] at h
      simpa using (of_decide_eq_true h).symm
    · exact ⟨e, List.mem_cons_self, .inr h⟩
/-- Whom an operation waits for, at last. -/
def Masks (M : List Nat) (os : List Oper) : Prop := M.length = os.length ∧ ∀ i m, (M.getD i 0).testBit m = true → ∃ o e, os[i]? = some o ∧ e ∈ edges o ∧ (m = e ∨ (M.getD e 0).testBit m = true)
theorem masks_sound : ∀ (os : List Oper) (acc : List Nat) (pre : List Oper), Masks acc pre → Masks (masks acc os) (pre ++ os)
  | [], acc, pre, h => by simpa [masks] using h
  | o :: os, acc, pre, h => by
    have := masks_sound os (acc ++ [maskOf acc (edges o)]) (pre ++ [o]) ?_
    · simpa [masks] using this
    refine ⟨by simp [h.1], fun i m hm => ?_⟩
    have up : ∀ e, (acc.getD e 0).testBit m = true → ((acc ++ [maskOf acc (edges o)]).getD e 0).testBit m = true := fun e he => by
      have hlt : e < acc.length := by
        rcases Nat.lt_or_ge e acc.length with q | q
        · exact q
        · rw [List.getD_eq_getElem?_getD, List.getElem?_eq_none q] at he; simp at he
      rw [List.getD_eq_getElem?_getD, List.getElem?_append_left hlt, ← List.getD_eq_getElem?_getD]
      exact he
    rcases Nat.lt_trichotomy i acc.length with q | q | q
    · rw [List.getD_eq_getElem?_getD, List.getElem?_append_left q, ← List.getD_eq_getElem?_getD] at hm
      obtain ⟨o', e, h1, h2, h3⟩ := h.2 i m hm
      refine ⟨o', e, ?_, h2, h3.imp id (up e)⟩
      rw [List.getElem?_append_left (by rw [← h.1]; exact q)]
      exact h1
    · subst q
      have hm' : (maskOf acc (edges o)).testBit m = true := by simpa using hm
      obtain ⟨e, h1, h2⟩ := maskOf_testBit acc m _ hm'
      refine ⟨o, e, ?_, h1, h2.imp id (up e)⟩
      rw [h.1]
      simp
    · rw [List.getD_eq_getElem?_getD, List.getElem?_eq_none (by simp; omega)] at hm
      simp at hm

section
variable {P : Program} {nt : Nat} {T : TT} (hT : T.OK P) {E : Env} (hE : E.F = .not) (hC : CallOK P E)
include hT hE hC

theorem any_sound {ops : Array Oper} {aos : List AOper} (hok : okDraw T nt ops aos = true) {Q : Exit → Act → World → Prop} {g' : Nat → AV} {s' : St} : ∀ (fuel : Nat) (L : List Nat) (listed : Array Bool) {κ : Kap} {s : St} {w : World} {g : Nat → AV} {a : Act},
    L.length = fuel → L.Pairwise (· < ·) → listed.size = ops.size → (∀ i, i ∈ L ↔ i < ops.size ∧ listed.getD i true = false) →
    (∀ i m, listed.getD i false = true → ((masks [] ops.toList).getD i 0).testBit m = true → listed.getD m false = true) → Run κ s w g a nt E.glob → runF E (L.map (aos.getD · default)) g s = some (g', s') →
    (∀ κ' w' a', Ext κ s w κ' s' w' → Run κ' s' w' g' a' nt E.glob → Q .normal a' w') → wpAny P .any ops Q fuel listed a w := by
  simp only [okDraw, Bool.and_eq_true] at hok
  obtain ⟨⟨ho1, ho2⟩, ho3⟩ := hok
  obtain ⟨hlen, hops⟩ := okOpers_sound ho1
  have hlow := okLow_sound ho2
  have hrows := okRows_sound ho3
  have hM := masks_sound ops.toList [] [] ⟨rfl, fun i m h => by simp at h⟩
  have hedge : ∀ (o : Oper) (e : Edge), e ∈ o.after → Region.binds .any e = true → e.on ∈ edges o := fun o e he hb => List.mem_map.2 ⟨e, List.mem_filter.2 ⟨by simpa using he, hb⟩, rfl⟩
  have hedge' : ∀ (o : Oper) (n : Nat), n ∈ edges o → ∃ e, e ∈ o.after ∧ Region.binds .any e = true ∧ e.on = n := fun o n hn => by
    obtain ⟨e, he, hen⟩ := List.mem_map.1 hn
    obtain ⟨h1, h2⟩ := List.mem_filter.1 he
    exact ⟨e, by simpa using h1, h2, hen⟩
  have ff : ∀ (listed : Array Bool) (i : Nat), i < listed.size → listed.getD i true = listed.getD i false := fun listed i h => by simp [Array.getD_eq_getD_getElem?, h]
  intro fuel
  induction fuel with
  | zero =>
    intro L listed κ s w g a hL hp hsz hmem hcl h hr hQ
    have : L = [] := List.eq_nil_of_length_eq_zero hL
    subst this
    refine ⟨?_, ?_⟩
    · cases hrd : Region.ready .any ops listed with
      | nil => rfl
      | cons i l =>
        have hi : i ∈ Region.ready .any ops listed := by rw [hrd]; exact List.mem_cons_self
        obtain ⟨h1, o, h2, _⟩ := mem_ready.1 hi
        have := (hmem i).2 ⟨(Array.getElem?_eq_some_iff.1 h2).1, h1⟩
        cases this
    · simp only [List.map_nil, runF, Option.some.injEq, Prod.mk.injEq] at hr
      obtain ⟨rfl, rfl⟩ := hr
      exact hQ κ w a (.refl _ _ _) h
  | succ fuel ih =>
    intro L listed κ s w g a hL hp hsz hmem hcl h hr hQ
    refine ⟨fun hrd => ?_, fun i hi => ?_⟩
    · cases L with
      | nil => simp at hL
      | cons i0 l =>
        obtain ⟨h1, h2⟩ := (hmem i0).1 List.mem_cons_self
        have : i0 ∈ Region.ready .any ops listed := by
          refine mem_ready.2 ⟨h2, ops[i0], Array.getElem?_eq_getElem h1, fun e he hb => ?_⟩
          have hlt := hlow i0 ops[i0] (by simp [h1]) e.on (hedge _ _ he hb)
          rw [Nat.zero_add] at hlt
          rw [← ff listed e.on (by omega)]
          cases hq : listed.getD e.on true with
          | true => rfl
          | false =>
            have := (hmem e.on).2 ⟨by omega, hq⟩
            rcases List.mem_cons.1 this with q | q
            · omega
            · have := List.rel_of_pairwise_cons hp q
              omega
        rw [hrd] at this
        cases this
    · obtain ⟨h1, o, h2, h3⟩ := mem_ready.1 hi
      have hin : i < ops.size := (Array.getElem?_eq_some_iff.1 h2).1
      have hiL := (hmem i).2 ⟨hin, h1⟩
      have hdone : ∀ m, ((masks [] ops.toList).getD i 0).testBit m = true → listed.getD m false = true := fun m hm => by
        obtain ⟨o', e, q1, q2, q3⟩ := hM.2 i m hm
        have : o' = o := by
          have q1' : ops[i]? = some o' := by simpa using q1
          rw [h2] at q1'
          exact (Option.some.inj q1').symm
        subst this
        obtain ⟨e', r1, r2, r3⟩ := hedge' _ _ q2
        have hl := h3 e' r1 r2
        rw [r3] at hl
        rcases q3 with q3 | q3
        · rw [q3]; exact hl
        · exact hcl e m hl q3
      obtain ⟨pre, post, rfl⟩ := List.append_of_mem hiL
      have hpp := List.pairwise_append.1 hp
      have hpre : ∀ m, m ∈ pre → m < i := fun m hm => hpp.2.2 m hm i List.mem_cons_self
      have hpost : ∀ m, m ∈ post → i < m := fun m hm => List.rel_of_pairwise_cons hpp.2.1 hm
      have hget : ∀ m, m < ops.size → aos[m]? = some (aos.getD m default) := fun m hm => by
        have : m < aos.length := by rw [hlen]; simpa using hm
        simp [List.getD_eq_getElem?_getD, this]
      have hind : ∀ x, x ∈ pre.map (aos.getD · default) → indep x (aos.getD i default) = true := fun x hx => by
        obtain ⟨m, hm, rfl⟩ := List.mem_map.1 hx
        have hmi := hpre m hm
        obtain ⟨hmn, hmu⟩ := (hmem m).1 (List.mem_append_left _ hm)
        rcases hrows i m _ _ (Nat.zero_le _) hmi (hget m hmn) (hget i hin) with q | q
        · have := hdone m (by simpa using q)
          rw [ff listed m (by omega), this] at hmu
          cases hmu
        · exact q
      rw [List.map_append, List.map_cons] at hr
      have hr' := run_first hE _ hind hr
      rw [← List.map_append] at hr'
      simp only [runF] at hr'
      cases he : eff E (aos.getD i default) g s with
      | none => rw [he] at hr'; cases hr'
      | some p =>
        obtain ⟨v, s1⟩ := p
        rw [he] at hr'
        simp only [Option.bind_some] at hr'
        refine oper_sound hT hE hC h h2 (hops i _ o (hget i hin) (by simpa using h2)) he fun κ' w' a' he' h' => ?_
        refine ih (pre ++ post) _ (by simp at hL ⊢; omega) (List.pairwise_append.2 ⟨hpp.1, hpp.2.1.of_cons, fun x hx y hy => hpp.2.2 x hx y (List.mem_cons_of_mem _ hy)⟩) (by simp [hsz]) (fun j => ?_) (fun j m hj hm => ?_) h' hr'
          (fun κ'' w'' a'' he'' h'' => hQ κ'' w'' a'' (he'.trans he'') h'')
        · by_cases hji : j = i
          · subst hji
            constructor
            · intro hm
              rcases List.mem_append.1 hm with q | q
              · exact absurd (hpre j q) (Nat.lt_irrefl _)
              · exact absurd (hpost j q) (Nat.lt_irrefl _)
            · intro hm
              have := hm.2
              simp [Array.getD_eq_getD_getElem?, hsz, hin] at this
          · rw [getD_set_ne true (Ne.symm hji), ← hmem j]
            simp only [List.mem_append, List.mem_cons]
            constructor
            · rintro (q | q)
              · exact .inl q
              · exact .inr (.inr q)
            · rintro (q | q | q)
              · exact .inl q
              · exact absurd q hji
              · exact .inr q
        · by_cases hji : j = i
          · subst hji
            exact getD_set_true (hdone m hm)
          · rw [getD_set_ne false (Ne.symm hji)] at hj
            exact getD_set_true (hcl j m hj hm)

/-- A region in the order of the text. -/
theorem region_sound {κ : Kap} {s : St} {w : World} {fr : Tr} {a : Act} {ops : Array Oper} {aos : List AOper} (hok : okOpers T nt ops aos ops.toList = true) (h : Run κ s w fr.get a nt E.glob) {fin : Tr → St → Res} {pan : AV → Tr → St → Res} {r : Res} (hf : r ≠ .fail) (hr : runOps E aos fr s fin pan = r) {Q : Exit → Act → World → Prop}
    (hQ : ∀ κ' s' w' fr' a', Ext κ s w κ' s' w' → Run κ' s' w' fr'.get a' nt E.glob → fin fr' s' = r → Q .normal a' w') (id : Nat) : (Code.region id ops false).wp P Q a w := by
  obtain ⟨fr', s', h1, h2⟩ := runOps_runF hE hC.nopanic hf aos hr
  obtain ⟨hlen, hops⟩ := okOpers_sound hok
  refine wp_region (ops_sound hT hE hC (List.range ops.size) aos (by rw [hlen]; simp) (fun j i ao hj ha => ?_) h h1 (fun κ' w' a' he h' => hQ κ' s' w' fr' a' he h' h2))
  obtain ⟨hj1, hj2⟩ := List.getElem?_eq_some_iff.1 hj
  rw [List.getElem_range] at hj2
  subst hj2
  have hlt : j < ops.size := by simpa using hj1
  exact ⟨ops[j], Array.getElem?_eq_getElem hlt, hops j ao _ ha (by simp [hlt])⟩

theorem Run.drawn {κ : Kap} {s : St} {w : World} {g : Nat → AV} {a : Act} (h : Run κ s w g a nt E.glob) : Run κ s { w with drawn := w.drawn + 1 } g a nt E.glob ∧ Ext κ s w κ s { w with drawn := w.drawn + 1 } :=
  ⟨⟨h.sim.world (.refl _ _) rfl rfl (fun a v e => h.sim.froz a v e) (fun _ _ => ⟨rfl, fun _ => rfl⟩), h.fr, h.defers, h.size, h.glob⟩,
   ⟨.refl _ _, rfl, Nat.le_refl _, rfl, rfl, rfl, fun _ _ _ => rfl, fun _ _ h => h, fun _ h => .inl h⟩⟩

/-- A region whose order is drawn. -/
theorem draw_sound {κ : Kap} {s : St} {w : World} {fr : Tr} {a : Act} {ops : Array Oper} {aos : List AOper} (hm : P.follows .mixedOrders = true) (hok : okDraw T nt ops aos = true) (h : Run κ s w fr.get a nt E.glob) {fin : Tr → St → Res} {pan : AV → Tr → St → Res} {r : Res} (hf : r ≠ .fail) (hr : runOps E aos fr s fin pan = r) {Q : Exit → Act → World → Prop}
    (hQ : ∀ κ' s' w' fr' a', Ext κ s w κ' s' w' → Run κ' s' w' fr'.get a' nt E.glob → fin fr' s' = r → Q .normal a' w') (id : Nat) : (Code.region id ops true).wp P Q a w := by
  obtain ⟨fr', s', h1, h2⟩ := runOps_runF hE hC.nopanic hf aos hr
  have hlen := (okOpers_sound (by simp only [okDraw, Bool.and_eq_true] at hok; exact hok.1.1)).1
  obtain ⟨hd, hext⟩ := h.drawn hT hE hC
  refine wp_region_any hm (any_sound hT hE hC hok ops.size (List.range ops.size) _ (by simp) List.pairwise_lt_range (by simp) (fun i => ?_) (fun i m hi => ?_) hd ?_ (fun κ' w' a' he h' => hQ κ' s' w' fr' a' (hext.trans he) h' h2))
  · rw [List.mem_range]
    constructor
    · intro hi; exact ⟨hi, by simp [Array.getD_eq_getD_getElem?, hi]⟩
    · exact fun hi => hi.1
  · by_cases hlt : i < ops.size
    · simp [Array.getD_eq_getD_getElem?, hlt] at hi
    · simp [Array.getD_eq_getD_getElem?, hlt] at hi
  · have : (List.range ops.size).map (aos.getD · default) = aos := by
      apply List.ext_getElem
      · rw [hlen]; simp
      · intro i q1 q2
        simp [List.getD_eq_getElem?_getD, q2]
    rw [this]
    exact h1
end
end Go.Ab
end
section
/- A function's code, abstract and machine's. -/
namespace Go.Ab
set_option linter.unusedSimpArgs false
set_option linter.unusedSectionVars false

def okCode (T : TT) (nt : Nat) : ACode → Code → Bool
  | .skip, .skip => true
  | .skip, .label _ => true
  | .region none aos, .region _ ops false => okOpers T nt ops aos ops.toList
  | .region (some []) aos, .region _ ops true => okDraw T nt ops aos
  | .seq a b, .seq x y => okCode T nt a x && okCode T nt b y
  | .mask _ a, c => okCode T nt a c
  | .cond c a b, .cond c' x y => okOpd c c' && okCode T nt a x && okCode T nt b y
  | .block i a, .block j x => Nat.beq i j && okCode T nt a x
  | .loop _ a, .loop x => okCode T nt a x
  | .exit i, .exit j => Nat.beq i j
  | .scope a, .scope x => okCode T nt a x
  | .ret, .ret => true
  | _, _ => false

inductive XR : AX → Exit → Prop
  | norm : XR .norm .normal
  | exit (i : Nat) : XR (.exit i) (.exit i)
  | ret : XR .ret .ret

theorem maskK_sound : ∀ (m : Mk) (k : Tr → Res) (fr : Tr), ∃ fr', Tr.maskK m k fr = k fr' ∧ ∀ t, fr'.get t = fr.get t ∨ fr'.get t = .dead
  | .e, k, fr => ⟨.e, by cases fr <;> rfl, fun t => .inr rfl⟩
  | .n ml b mr, k, .e => by
    obtain ⟨l', e1, h1⟩ := maskK_sound ml (fun l => Tr.maskK mr (fun r => k (.n l .dead r)) .e) .e
    obtain ⟨r', e2, h2⟩ := maskK_sound mr (fun r => k (.n l' .dead r)) .e
    refine ⟨.n l' .dead r', by simp only [Tr.maskK]; rw [e1]; exact e2, fun t => .inr ?_⟩
    have h1' : ∀ t, l'.get t = .dead := fun t => (h1 t).elim (fun h => h) id
    have h2' : ∀ t, r'.get t = .dead := fun t => (h2 t).elim (fun h => h) id
    simp only [Tr.get, h1', h2']
    cases Nat.beq t 0 <;> cases Nat.beq (t % 2) 1 <;> rfl
  | .n ml b mr, k, .n l v r => by
    obtain ⟨l', e1, h1⟩ := maskK_sound ml (fun l => Tr.maskK mr (fun r => k (.n l (bif b then v else .dead) r)) r) l
    obtain ⟨r', e2, h2⟩ := maskK_sound mr (fun r => k (.n l' (bif b then v else .dead) r)) r
    refine ⟨.n l' (bif b then v else .dead) r', by simp only [Tr.maskK]; rw [e1]; exact e2, fun t => ?_⟩
    simp only [Tr.get]
    cases Nat.beq t 0 with
    | true => cases b <;> simp
    | false =>
      simp only [cond_false]
      cases Nat.beq (t % 2) 1 with
      | true => exact h1 _
      | false => exact h2 _

theorem maskK_inv {m : Mk} {k : Tr → Res} {fr : Tr} {r : Res} (h : Tr.maskK m k fr = r) : ∃ fr', k fr' = r ∧ ∀ t, fr'.get t = fr.get t ∨ fr'.get t = .dead := by
  obtain ⟨fr', e, hg⟩ := maskK_sound m k fr
  exact ⟨fr', e.symm.trans h, hg⟩

theorem wp_loopN {P : Program} {c : Code} {Q : Exit → Act → World → Prop} (J : Nat → Act → World → Prop) (round : ∀ n a w, J n a w → c.wp P (Exit.then (fun a' w' => ∃ m, m < n ∧ J m a' w') Q) a w) {n : Nat} {a : Act} {w : World} (h : J n a w) : (Code.loop c).wp P Q a w := by
  intro b k cs
  have key : ∀ n a w, J n a w → ∃ e a' w', Q e a' w' ∧ Arrives P (lone (b.at a (.code c :: .inLoop c :: k)) cs w) b k cs e a' w' := by
    intro n
    induction n using Nat.strongRecOn with
    | _ n ih =>
      intro a w hJ
      obtain ⟨e, a₁, w₁, hq, harr⟩ := round n a w hJ b (.inLoop c :: k) cs
      cases e with
      | normal =>
        obtain ⟨m, hlt, hJ₁⟩ := hq
        obtain ⟨e₂, a₂, w₂, hq₂, harr₂⟩ := ih m hlt a₁ w₁ hJ₁
        exact ⟨e₂, a₂, w₂, hq₂, .of_steps (Steps.trans harr (.one step_inLoop)) harr₂⟩
      | exit id => exact ⟨_, a₁, w₁, hq, .pass (x := .inLoop c) rfl (fun _ _ => .inl (by simp)) harr⟩
      | goto l => exact ⟨_, a₁, w₁, hq, .pass (x := .inLoop c) rfl (fun _ _ => .inl (by simp)) harr⟩
      | ret => exact ⟨_, a₁, w₁, hq, .pass (x := .inLoop c) rfl (fun _ _ => .inl (by simp)) harr⟩
      | panic ch => exact ⟨_, a₁, w₁, hq, .pass (x := .inLoop c) rfl (fun _ _ => .inl (by simp)) harr⟩
      | outgrown => exact ⟨_, a₁, w₁, hq, .pass (x := .inLoop c) rfl (fun _ _ => .inl (by simp)) harr⟩
  obtain ⟨e, a', w', hq, harr⟩ := key n a w h
  exact ⟨e, a', w', hq, .of_steps (.one step_loop) harr⟩

/-- Where the code has come to. -/
def ExecPost (κ : Kap) (s : St) (w : World) (nt : Nat) (G : Nat → AV) (k : AX → Tr → St → Res) (r : Res) : Exit → Act → World → Prop := fun e a' w' => ∃ x κ' s' fr', XR x e ∧ Ext κ s w κ' s' w' ∧ Run κ' s' w' fr'.get a' nt G ∧ k x fr' s' = r

theorem ExecPost.trans {κ κ' : Kap} {s s' : St} {w w' : World} {nt : Nat} {G : Nat → AV} {k : AX → Tr → St → Res} {r : Res} (he : Ext κ s w κ' s' w') {e : Exit} {a : Act} {w'' : World} (h : ExecPost κ' s' w' nt G k r e a w'') : ExecPost κ s w nt G k r e a w'' := by
  obtain ⟨x, κ'', s'', fr', h1, h2, h3, h4⟩ := h
  exact ⟨x, κ'', s'', fr', h1, he.trans h2, h3, h4⟩

section
variable {P : Program} (hm : P.follows .mixedOrders = true) {nt : Nat} {T : TT} (hT : T.OK P) {E : Env} (hE : E.F = .not) (hC : CallOK P E)
include hm hT hE hC

theorem exec_sound : ∀ (c : ACode) (code : Code), okCode T nt c code = true → ∀ {κ : Kap} {s : St} {w : World} {fr : Tr} {a : Act} {k : AX → Tr → St → Res} {r : Res}, r ≠ .fail → Run κ s w fr.get a nt E.glob → exec E c fr s k = r → code.wp P (ExecPost κ s w nt E.glob k r) a w := by
  intro c
  induction c with
  | skip =>
    intro code hok κ s w fr a k r hf h hr
    cases code <;> simp only [okCode, Bool.false_eq_true] at hok
    · exact wp_skip ⟨.norm, κ, s, fr, .norm, .refl _ _ _, h, hr⟩
    · exact wp_label ⟨.norm, κ, s, fr, .norm, .refl _ _ _, h, hr⟩
  | region chk aos =>
    intro code hok κ s w fr a k r hf h hr
    cases code with
    | region id ops d =>
      cases chk with
      | none =>
        cases d with
        | true => simp [okCode] at hok
        | false =>
          simp only [okCode] at hok
          simp only [exec] at hr
          exact region_sound hT hE hC hok h hf hr (fun κ' s' w' fr' a' he h' hk => ⟨.norm, κ', s', fr', .norm, he, h', hk⟩) id
      | some chk =>
        cases chk with
        | cons x l => simp [okCode] at hok
        | nil =>
          cases d with
          | false => simp [okCode] at hok
          | true =>
            simp only [okCode] at hok
            simp only [exec, List.all_nil, cond_true] at hr
            exact draw_sound hT hE hC hm hok h hf hr (fun κ' s' w' fr' a' he h' hk => ⟨.norm, κ', s', fr', .norm, he, h', hk⟩) id
    | _ => cases chk <;> simp [okCode] at hok
  | seq x y ihx ihy =>
    intro code hok κ s w fr a k r hf h hr
    cases code <;> simp only [okCode, Bool.false_eq_true, Bool.and_eq_true] at hok
    simp only [exec] at hr
    refine wp_seq (wp_mono (ihx _ hok.1 hf h hr) fun e a' w' hp => ?_)
    obtain ⟨z, κ', s', fr', hz, he, h', hk⟩ := hp
    cases hz with
    | norm => exact wp_mono (ihy _ hok.2 hf h' hk) fun e a'' w'' hp => hp.trans he
    | exit i => exact ⟨.exit i, κ', s', fr', .exit i, he, h', hk⟩
    | ret => exact ⟨.ret, κ', s', fr', .ret, he, h', hk⟩
  | mask m x ih =>
    intro code hok κ s w fr a k r hf h hr
    have hok' : okCode T nt x code = true := by simpa only [okCode] using hok
    simp only [exec] at hr
    obtain ⟨fr₂, hl, hget⟩ := maskK_inv hr
    have h₂ : Run κ s w fr₂.get a nt E.glob := ⟨h.sim, fun t => by
      rcases hget t with q | q
      · rw [q]; exact h.fr t
      · rw [q]; exact .dead _, h.defers, h.size, h.glob⟩
    exact ih code hok' hf h₂ hl
  | cond c x y ihx ihy =>
    intro code hok κ s w fr a k r hf h hr
    cases code <;> simp only [okCode, Bool.false_eq_true, Bool.and_eq_true] at hok
    simp only [exec] at hr
    have hc := opnd_VR h.fr h.glob hok.1.1
    cases hv : opnd E.glob fr.get c <;> rw [hv] at hr hc <;> simp only at hr <;> first | exact absurd hr.symm hf | skip
    rename_i b
    cases b with
    | true => exact wp_cond_true (VR.bool_inv (b := true) hc) (ihx _ hok.1.2 hf h hr)
    | false => exact wp_cond_false (VR.bool_inv (b := false) hc) (ihy _ hok.2 hf h hr)
  | block id c ih =>
    intro code hok κ s w fr a k r hf h hr
    cases code <;> simp only [okCode, Bool.false_eq_true, Bool.and_eq_true] at hok
    have e := Nat.eq_of_beq_eq_true hok.1
    subst e
    simp only [exec] at hr
    refine wp_block (wp_mono (ih _ hok.2 hf h hr) fun e a' w' hp => ?_)
    obtain ⟨z, κ', s', fr', hz, he, h', hk⟩ := hp
    cases hz with
    | norm => exact ⟨.norm, κ', s', fr', .norm, he, h', hk⟩
    | exit i =>
      simp only [Exit.inBlock]
      simp only [blockK] at hk
      split
      · rename_i hi
        rw [hi, Nat.beq_refl, cond_true] at hk
        exact ⟨.norm, κ', s', fr', .norm, he, h', hk⟩
      · rename_i hi
        rw [show Nat.beq i id = false from by cases hb : Nat.beq i id with
          | false => rfl
          | true => exact absurd (Nat.eq_of_beq_eq_true hb) hi, cond_false] at hk
        exact ⟨.exit i, κ', s', fr', .exit i, he, h', hk⟩
    | ret => exact ⟨.ret, κ', s', fr', .ret, he, h', hk⟩
  | loop keep c ih =>
    intro code hok κ s w fr a k r hf h hr
    cases code <;> simp only [okCode, Bool.false_eq_true] at hok
    simp only [exec] at hr
    have masked : ∀ {κ' : Kap} {s' : St} {w' : World} {fr' fr₂ : Tr} {a' : Act}, Run κ' s' w' fr'.get a' nt E.glob → (∀ t, fr₂.get t = fr'.get t ∨ fr₂.get t = .dead) → Run κ' s' w' fr₂.get a' nt E.glob := fun h' hget => ⟨h'.sim, fun t => by
      rcases hget t with q | q
      · rw [q]; exact h'.fr t
      · rw [q]; exact .dead _, h'.defers, h'.size, h'.glob⟩
    obtain ⟨fr₀, hl₀, hget₀⟩ := maskK_inv hr
    obtain ⟨N, hN⟩ := hC.loop
    rw [hN] at hl₀
    refine wp_loopN (fun n a' w' => ∃ κ' s' fr', Ext κ s w κ' s' w' ∧ Run κ' s' w' fr'.get a' nt E.glob ∧ loopIter (exec E c) keep n fr' s' k = r) (fun n a' w' hJ => ?_) ⟨κ, s, fr₀, .refl _ _ _, masked h hget₀, hl₀⟩
    obtain ⟨κ', s', fr', he, h', hl⟩ := hJ
    cases n with
    | zero => exact absurd hl.symm hf
    | succ n =>
      simp only [loopIter] at hl
      refine wp_mono (ih _ hok hf h' hl) fun e a'' w'' hp => ?_
      obtain ⟨z, κ'', s'', fr'', hz, he', h'', hk⟩ := hp
      cases hz with
      | norm =>
        simp only [joinK] at hk
        obtain ⟨fr₂, hl₂, hget₂⟩ := maskK_inv hk
        exact ⟨n, Nat.lt_succ_self n, κ'', s'', fr₂, he.trans he', masked h'' hget₂, hl₂⟩
      | exit i => exact ⟨.exit i, κ'', s'', fr'', .exit i, he.trans he', h'', hk⟩
      | ret => exact ⟨.ret, κ'', s'', fr'', .ret, he.trans he', h'', hk⟩
  | exit id =>
    intro code hok κ s w fr a k r hf h hr
    cases code <;> simp only [okCode, Bool.false_eq_true] at hok
    have e := Nat.eq_of_beq_eq_true hok
    subst e
    exact wp_exit ⟨.exit id, κ, s, fr, .exit id, .refl _ _ _, h, hr⟩
  | scope c ih =>
    intro code hok κ s w fr a k r hf h hr
    cases code <;> simp only [okCode, Bool.false_eq_true] at hok
    simp only [exec] at hr
    refine wp_scope_straight (wp_mono (ih _ hok hf h hr) fun e a' w' hp => ?_)
    obtain ⟨z, κ', s', fr', hz, he, h', hk⟩ := hp
    cases hz with
    | norm => exact ⟨.norm, κ', s', fr', .norm, he, h', hk⟩
    | exit i => exact ⟨.exit i, κ', s', fr', .exit i, he, h', hk⟩
    | ret => exact ⟨.ret, κ', s', fr', .ret, he, h', hk⟩
  | ret =>
    intro code hok κ s w fr a k r hf h hr
    cases code <;> simp only [okCode, Bool.false_eq_true] at hok
    exact wp_ret ⟨.ret, κ, s, fr, .ret, .refl _ _ _, h, hr⟩
end
end Go.Ab
end
