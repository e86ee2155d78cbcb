/- A law that answers true: from the evaluator's run to what its statement asks. -/
import Derived.Test.YtnafklimohmfkaaDoorRead
import Derived.ChangeSame
import Derived.ChangeOld
import Derived.OpenShut
namespace Go.Ab
open Go.ChangeShapes Go.WideShapes
section
variable {H : Type} {enc : TypeId × Value → H} {P : Program}
def argD : Sh → DataW H → AV
  | .st fs, d => .agg (encD (.st fs) d)
  | sh, d => (encD sh d).headD .dead
theorem arg_sound {W : World} (D : Nat) {sh : Sh} {t : TypeId} {v : Value} {d : DataW H} {ps : List MemPlace} {base : Nat} (hs : okSh P sh t = true) (hv : Value.okWide P W .any base t v) (h : DataW.Trod enc P W 0 (fun _ => true) true t v d ps) :
    VR (initKap W) D (argD sh d) v ∧ FitD sh d := by
  obtain ⟨fuel, h⟩ := h
  obtain ⟨h1, h2⟩ := read_sound D sh t fuel _ d ps hs h
  refine ⟨?_, h2⟩
  have single : sh.size = 1 → (∀ cs, v ≠ .agg cs) → VR (initKap W) D ((encD sh d).headD .dead) v := fun hz hne => by
    have hc : v.cells.toList = [v] := by
      cases v <;> try rfl
      exact absurd rfl (hne _)
    rw [hc] at h1
    have hal := h1.alen
    rw [hz] at hal
    match hq : encD sh d, hal with
    | [c], _ =>
      obtain ⟨x, hx, hr⟩ := h1.vr.get (j := 0) (c := c) (by rw [hq]; rfl)
      cases hx
      exact hr
  cases sh with
  | st fs =>
    simp only [okSh] at hs
    split at hs <;> try cases hs
    rename_i fl hu
    unfold Value.okWide at hv
    rw [hu] at hv
    obtain ⟨cs, rfl, _, _⟩ := hv
    exact .agg _ cs.toList h1.vr.1 h1.vr.2
  | bool =>
    refine single rfl fun cs e => ?_
    subst e
    simp only [okSh] at hs
    split at hs <;> try cases hs
    rename_i hu
    simp [Value.okWide, hu, Cell.okWide, Cell.ok] at hv
  | int k =>
    refine single rfl fun cs e => ?_
    subst e
    simp only [okSh] at hs
    split at hs <;> try cases hs
    rename_i hu
    simp [Value.okWide, hu, Cell.okWide, Cell.ok] at hv
  | str =>
    refine single rfl fun cs e => ?_
    subst e
    simp only [okSh] at hs
    split at hs <;> try cases hs
    rename_i hu
    simp [Value.okWide, hu, Cell.okWide, Cell.ok] at hv
  | sl e =>
    refine single rfl fun cs e => ?_
    subst e
    simp only [okSh] at hs
    split at hs <;> try cases hs
    rename_i hu
    simp [Value.okWide, hu, Cell.okWide, Cell.ok] at hv
def argsD : List Sh → List (DataW H) → List AV
  | s :: ss, d :: ds => argD s d :: argsD ss ds
  | _, _ => []
def okTys (P : Program) : List Sh → List TypeId → Bool
  | [], [] => true
  | s :: ss, t :: ts => okSh P s t && okTys P ss ts
  | _, _ => false
theorem args_sound {W : World} (D : Nat) {base : Nat} : ∀ (shs : List Sh) (ts : List TypeId) (vs : List Value) (ds : List (DataW H)) (ps : List MemPlace), okTys P shs ts = true → (∀ (j : Nat) t v, ts[j]? = some t → vs[j]? = some v → Value.okWide P W .any base t v) →
    DataW.TrodAll enc P W 0 (fun _ => true) true ts vs ds ps → VRs (initKap W) D (argsD shs ds) vs ∧ FitDs shs ds
  | [], [], vs, ds, ps, _, _, h => by
    cases vs with
    | cons v vs => simp [DataW.TrodAll] at h
    | nil =>
      cases ds with
      | cons d ds => simp [DataW.TrodAll] at h
      | nil => exact ⟨.nil _ _, by simp [FitDs]⟩
  | s :: ss, [], _, _, _, hs, _, _ => by simp [okTys] at hs
  | [], t :: ts, _, _, _, hs, _, _ => by simp [okTys] at hs
  | s :: ss, t :: ts, vs, ds, ps, hs, hv, h => by
    cases vs with
    | nil => cases ds <;> simp [DataW.TrodAll] at h
    | cons v vs =>
      cases ds with
      | nil => simp [DataW.TrodAll] at h
      | cons d ds =>
        simp only [DataW.TrodAll] at h
        obtain ⟨p, q, h1, h2, _⟩ := h
        simp only [okTys, Bool.and_eq_true] at hs
        obtain ⟨k1, k2⟩ := arg_sound D hs.1 (hv 0 t v rfl rfl) h1
        obtain ⟨m1, m2⟩ := args_sound D ss ts vs ds q hs.2 (fun j t' v' ht hv' => hv (j + 1) t' v' (by simpa using ht) (by simpa using hv')) h2
        refine ⟨.cons k1 m1, ?_⟩
        simp only [FitDs]
        exact ⟨_, _, rfl, k2, m2⟩
theorem Left.sameAt {W W' : World} (h : Left W W') {p : MemPlace} (hp : p.block < W.heap.size) : W.sameAt W' p := by
  cases p with
  | cell b off =>
    show W'.cell? _ = W.cell? _
    unfold World.cell?
    simp only [h.old b hp]
  | map b => exact h.old b hp
theorem carryAll {W W' : World} (hl : laidOutB P = true) (hL : Left W W') : ∀ (ts : List TypeId) (vs : List Value) (ds : List (DataW H)) (ps : List MemPlace), (∀ t, t ∈ ts → P.readableRec t = true ∧ t < P.types.size) → (∀ p, p ∈ ps → p.block < W.heap.size) →
    DataW.TrodAll enc P W 0 (fun _ => true) true ts vs ds ps → DataW.TrodAll enc P W' 0 (fun b => decide (b < W.heap.size)) true ts vs ds ps
  | [], vs, ds, ps, _, _, h => by
    cases vs <;> cases ds <;> simp only [DataW.TrodAll] at h ⊢
    exact h
  | t :: ts, vs, ds, ps, ht, hp, h => by
    cases vs with
    | nil => cases ds <;> simp [DataW.TrodAll] at h
    | cons v vs =>
      cases ds with
      | nil => simp [DataW.TrodAll] at h
      | cons d ds =>
        simp only [DataW.TrodAll] at h ⊢
        obtain ⟨p, q, h1, h2, rfl⟩ := h
        have hr := ht t (by simp)
        exact ⟨p, q, WideElems.Trod_stays hl hr.1 hr.2 h1 (fun x hx => hL.sameAt (hp x (by simp [hx]))) (fun x hx => by simpa using hp x (by simp [hx])),
          carryAll hl hL ts vs ds q (fun t' h' => ht t' (by simp [h'])) (fun x hx => hp x (by simp [hx])) h2, rfl⟩
theorem Left.keptBut {W W' : World} (h : Left W W') (may : MemPlace → Prop) : W.keptBut W' may := by
  refine ⟨h.os, h.output, fun i hi => ?_⟩
  rw [h.old i hi]
  have : ∃ o, W.heap[i]? = some o := ⟨_, Array.getElem?_eq_getElem hi⟩
  obtain ⟨o, ho⟩ := this
  rw [ho]
  cases o <;> simp
theorem post_true {f : Func} {s : ChangeSpec} {W W' : World} {args : Array Value} {ds gs : List (DataW H)} {before : List MemPlace} (hW : DataW.Whole enc P f.params.toList s.vars false W args.toList ds gs before) (hv : s.vars = [])
    (hf : ∀ (l : List (DataW H)), l.length = f.params.size → s.fn H l = { results := [.lit (.bool true)], args := l, vars := [] }) {tb : TypeId} (hrt : f.resultTypes = #[tb]) (htb : P.underlying tb = some .bool) (hl : laidOutB P = true)
    (hps : ∀ t, t ∈ f.params.toList → P.readableRec t = true ∧ t < P.types.size) (hL : Left W W') : s.post enc P f false true false false W args (.bool true) W' := by
  have hW' := hW
  have hlt := hW.lt
  obtain ⟨p, q, hA, hV, rfl, _, _⟩ := hW
  rw [hv] at hV
  have hV' : gs = [] ∧ q = [] := by cases gs <;> simp [DataW.TrodVars] at hV; exact ⟨rfl, hV⟩
  obtain ⟨rfl, rfl⟩ := hV'
  have hlen : ∀ (ts : List TypeId) (vs : List Value) (ds : List (DataW H)) (ps : List MemPlace), DataW.TrodAll enc P W 0 (fun _ => true) true ts vs ds ps → ds.length = ts.length := by
    intro ts
    induction ts with
    | nil => intro vs ds ps h; cases vs <;> cases ds <;> simp [DataW.TrodAll] at h ⊢
    | cons t ts ih =>
      intro vs ds ps h
      cases vs <;> cases ds <;> simp only [DataW.TrodAll] at h
      obtain ⟨_, _, _, h2, _⟩ := h
      simp [ih _ _ _ h2]
  have hfn := hf (ds ++ []) (by simpa using hlen _ _ _ _ hA)
  refine ⟨ds, [], p ++ [], [], p, [], hW', ?_, ?_, ?_, hL.keptBut _, fun h => by cases h⟩
  · rw [hfn, hrt]
    exact ⟨[], [], ⟨1, by simp [DataW.trod, Value.cells, htb]⟩, rfl, rfl⟩
  · rw [hfn]
    simp only [List.append_nil] at hlt ⊢
    exact carryAll hl hL _ _ _ _ hps hlt hA
  · rw [hfn, hv]
    rfl
end
end Go.Ab
