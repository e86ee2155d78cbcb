/- What a program says of its types, as the check asks it. -/
import Derived.Test.YtnafklimohmfkaaDoorCall
import Derived.WideKeyArgs
import Derived.ChangeArms
import Derived.ChangeSame
import Derived.ChangeOld
import Derived.OpenShut
section
/- What a program says of its types, as the check asks it. -/
namespace Go.Ab
def absV : Value → AV
  | .bool b => .bool b
  | .int k n => .int k n
  | .string _ => .str []
  | .pointer _ => .nilp
  | .slice _ _ _ => .sl 0 [] .nil
  | .map _ => .nilmap
  | .nilFunc => .nilf
  | .nilIface => .nili
  | _ => .dead
noncomputable def TDof (P : Program) : TT := { und := fun t => P.underlying t, info := fun t => (P.info? t).bind fun i => i.zero.map fun z => (i.size, i.bytes, z), az := fun t => match (P.info? t).bind (·.zero) with | some z => z.cells.toList.map absV | none => [] }
theorem info_OK {o : Option TypeInfo} {n b : Nat} {z : Value} (h : (o.bind fun i => i.zero.map fun z => (i.size, i.bytes, z)) = some (n, b, z)) : ∃ i, o = some i ∧ i.size = n ∧ i.bytes = b ∧ i.zero = some z := by
  obtain ⟨i, hi, h⟩ := Option.bind_eq_some_iff.1 h
  obtain ⟨z', hz, h⟩ := Option.map_eq_some_iff.1 h
  cases h
  exact ⟨i, hi, rfl, rfl, hz⟩
theorem TDof_OK (P : Program) : (TDof P).OK P where
  und := fun _ _ h => h
  info := fun t _ _ _ h => info_OK (o := P.info? t) h
end Go.Ab
end
section
/- What the statement's reading of an argument makes of it: a value that the evaluator knows. -/
namespace Go.Ab
set_option linter.unusedSimpArgs false

/-- The shape of a type. -/
inductive Sh where
  | bool | int (k : IntKind) | str | sl (e : Sh) | st (fs : List Sh)
mutual
def Sh.size : Sh → Nat
  | .st fs => Sh.sizes fs
  | _ => 1
def Sh.sizes : List Sh → Nat
  | [] => 0
  | s :: ss => s.size + Sh.sizes ss
end
def elemV : List AV → AV
  | [c] => c
  | cs => .agg cs
section
variable {H : Type}
mutual
def encD : Sh → DataW H → List AV
  | .bool, d => match d with | .lit (.bool b) => [.bool b] | _ => []
  | .int k, d => match d with | .lit (.int _ n) => [.int k n] | _ => []
  | .str, d => match d with | .lit (.string bs) => [.str (bs.map UInt8.toNat)] | _ => []
  | .sl e, d => match d with | .slice es _ => [.sl e.size (es.map fun x => elemV (encD e x)) .any] | _ => [.sl e.size [] .nil]
  | .st fs, d => match d with | .agg ds => encDs fs ds | _ => []
def encDs : List Sh → List (DataW H) → List AV
  | [], _ => []
  | s :: ss, l => match l with | d :: ds => encD s d ++ encDs ss ds | [] => []
end
mutual
/-- What is known of a reading. -/
def FitD : Sh → DataW H → Prop
  | .bool, d => ∃ b, d = .lit (.bool b)
  | .int k, d => ∃ n, d = .lit (.int k n) ∧ (Lit.int k n).wf = true
  | .str, d => ∃ bs, d = .lit (.string bs) ∧ bs.length ≤ maxLen
  | .sl e, d => d = .nil ∨ ∃ es rest, d = .slice es rest ∧ es.length + rest.length ≤ maxLen ∧ ∀ x, x ∈ es → FitD e x
  | .st fs, d => ∃ ds, d = .agg ds ∧ FitDs fs ds
def FitDs : List Sh → List (DataW H) → Prop
  | [], l => l = []
  | s :: ss, l => ∃ d ds, l = d :: ds ∧ FitD s d ∧ FitDs ss ds
end
mutual
def okSh (P : Program) : Sh → TypeId → Bool
  | .bool, t => match P.underlying t with | some .bool => true | _ => false
  | .int k, t => match P.underlying t with | some (.int k') => decide (k' = k) | _ => false
  | .str, t => match P.underlying t with | some .string => true | _ => false
  | .sl e, t => match P.underlying t with | some (.slice u) => okSh P e u && Nat.beq (P.cellsOf u) e.size && Nat.blt 0 e.size | _ => false
  | .st fs, t => match P.underlying t with | some (.struct fl) => okShs P fs fl.toList 0 && Nat.beq (P.cellsOf t) (Sh.sizes fs) | _ => false
def okShs (P : Program) : List Sh → List Field → Nat → Bool
  | [], fl, _ => match fl with | [] => true | _ => false
  | s :: ss, fl, off => match fl with | f :: fl => Nat.beq f.offset off && Nat.beq (P.cellsOf f.type) s.size && okSh P s f.type && okShs P ss fl (off + s.size) | [] => false
end
/-- What a reading gives. -/
structure RD (κ : Kap) (D : Nat) (n : Nat) (as : List AV) (cs : List Value) : Prop where
  vr : VRs κ D as cs
  len : cs.length = n
  ref : AV.reflessL as = true
  one : ∀ c, c ∈ as → c.cells = [c]
theorem RD.alen {κ : Kap} {D n : Nat} {as : List AV} {cs : List Value} (h : RD κ D n as cs) : as.length = n := by rw [← h.vr.1, h.len]
theorem RD.elem {κ : Kap} {D n : Nat} {as : List AV} {cs : List Value} (h : RD κ D n as cs) : (elemV as).cells = as ∧ (elemV as).refless = true := by
  unfold elemV
  split
  · rename_i c
    have := h.ref
    simp only [AV.reflessL, Bool.and_true] at this
    exact ⟨h.one c (by simp), this⟩
  · exact ⟨rfl, by simpa [AV.refless] using h.ref⟩
theorem refl_append : ∀ {a b : List AV}, AV.reflessL a = true → AV.reflessL b = true → AV.reflessL (a ++ b) = true
  | [], b, _, h => h
  | x :: a, b, h, k => by
    simp only [AV.reflessL, Bool.and_eq_true] at h
    simp only [List.cons_append, AV.reflessL, h.1, refl_append h.2 k, Bool.and_self]
theorem RD.append {κ : Kap} {D n m : Nat} {as bs : List AV} {cs ds : List Value} (h : RD κ D n as cs) (k : RD κ D m bs ds) : RD κ D (n + m) (as ++ bs) (cs ++ ds) :=
  ⟨h.vr.append k.vr, by simp [h.len, k.len], refl_append h.ref k.ref, fun c hc => by
    rcases List.mem_append.1 hc with h1 | h1
    · exact h.one c h1
    · exact k.one c h1⟩
theorem RD.single {κ : Kap} {D : Nat} {a : AV} {v : Value} (h : VR κ D a v) (hr : a.refless = true) (h1 : a.cells = [a]) : RD κ D 1 [a] [v] :=
  ⟨.cons h (.nil _ _), rfl, by simp [AV.reflessL, hr], fun c hc => by simp only [List.mem_singleton] at hc; subst hc; exact h1⟩
variable {enc : TypeId × Value → H} {P : Program} {w : World}
mutual
theorem read_sound (D : Nat) : ∀ (sh : Sh) (t : TypeId) (fuel : Nat) (cs : List Value) (d : DataW H) (ps : List MemPlace), okSh P sh t = true → DataW.trod enc P w 0 (fun _ => true) true fuel t cs = some (d, ps) →
    RD (initKap w) D sh.size (encD sh d) cs ∧ FitD sh d
  | .bool, t, fuel, cs, d, ps, hs, h => by
    simp only [okSh] at hs
    split at hs <;> try cases hs
    rename_i hu
    obtain ⟨b, rfl, e⟩ := DataW.trod_bool hu h
    cases e
    exact ⟨.single (.bool b) rfl rfl, by simp only [FitD]; exact ⟨b, rfl⟩⟩
  | .int k, t, fuel, cs, d, ps, hs, h => by
    simp only [okSh] at hs
    split at hs <;> try cases hs
    rename_i k' hu
    have hk : k' = k := of_decide_eq_true hs
    subst hk
    obtain ⟨n, rfl, e, hw⟩ := DataW.trod_int hu h
    cases e
    exact ⟨.single (.int k' n) rfl rfl, by simp only [FitD]; exact ⟨n, rfl, hw⟩⟩
  | .str, t, fuel, cs, d, ps, hs, h => by
    simp only [okSh] at hs
    split at hs <;> try cases hs
    rename_i hu
    obtain ⟨s, rfl, e, hw⟩ := DataW.trod_string hu h
    cases e
    exact ⟨.single (.str _ s rfl) rfl rfl, by simp only [FitD]; exact ⟨_, rfl, hw⟩⟩
  | .sl e, t, fuel, cs, d, ps, hs, h => by
    simp only [okSh] at hs
    split at hs <;> try cases hs
    rename_i u hu
    simp only [Bool.and_eq_true] at hs
    obtain ⟨⟨hsu, hsz⟩, hpos⟩ := hs
    have hsz := Nat.eq_of_beq_eq_true hsz
    have hpos : 0 < e.size := by simpa [Nat.blt_eq] using hpos
    rcases DataW.trod_slice hu h with ⟨rfl, e1⟩ | ⟨a, len, cap, elems, rest, n, rfl, rfl, e1, _, hlc, hcap, hlen, hel, hre, _⟩
    · cases e1
      exact ⟨.single (.slNil _) rfl rfl, by simp only [FitD]; exact .inl trivial⟩
    · cases e1
      have row : ∀ i, i < len → ∃ x r, elems[i]? = some x ∧ (∀ j, j < e.size → w.cell? (a.add (i * e.size + j)) = r[j]?) ∧ RD (initKap w) D e.size (encD e x.1) r ∧ FitD e x.1 := fun i hi => by
        have h1 := hel i hi
        obtain ⟨x, hx⟩ : ∃ x, elems[i]? = some x := ⟨_, List.getElem?_eq_getElem (by omega)⟩
        rw [hx] at h1
        obtain ⟨r, hr, h2⟩ := Option.bind_eq_some_iff.1 h1
        obtain ⟨_, hrl, hrc⟩ := World.cells?_some hr
        obtain ⟨k1, k2⟩ := read_sound D e u n r x.1 x.2 hsu h2
        refine ⟨x, r, hx, fun j hj => ?_, k1, k2⟩
        have := hrc j (by omega)
        rw [add_add, hsz] at this
        exact this
      have hrest := (hre rfl).1
      have hmem : ∀ y, y ∈ elems → ∃ r, RD (initKap w) D e.size (encD e y.1) r ∧ FitD e y.1 := fun y hy => by
        obtain ⟨i, hi, hy⟩ := List.getElem_of_mem hy
        obtain ⟨x, r, hx, _, k1, k2⟩ := row i (by omega)
        have : x = y := by rw [List.getElem?_eq_getElem hi, hy] at hx; exact (Option.some.inj hx).symm
        subst this
        exact ⟨r, k1, k2⟩
      have hszs : ∀ y, y ∈ (elems.map (·.1)).map (fun x => elemV (encD e x)) → y.cells.length = e.size ∧ y.refless = true := fun y hy => by
        simp only [List.map_map, List.mem_map, Function.comp] at hy
        obtain ⟨z, hz, rfl⟩ := hy
        obtain ⟨r, k1, _⟩ := hmem z hz
        exact ⟨by rw [k1.elem.1, k1.alen], k1.elem.2⟩
      have hll : ((elems.map (·.1)).map (fun x => elemV (encD e x))).length = len := by simp [hlen]
      have flen := flat_len ((elems.map (·.1)).map (fun x => elemV (encD e x))) e.size (fun y hy => (hszs y hy).1)
      rw [hll] at flen
      -- a cell of the whole
      have cell : ∀ j, j < len * e.size → ∃ c v, (((elems.map (·.1)).map (fun x => elemV (encD e x))).flatMap AV.cells)[j]? = some c ∧ w.cell? (a.add j) = some v ∧ VR (initKap w) D c v := fun j hj => by
        have hq : j / e.size < len := Nat.div_lt_of_lt_mul (by rw [Nat.mul_comm]; exact hj)
        have hr' : j % e.size < e.size := Nat.mod_lt _ hpos
        have hj' : j / e.size * e.size + j % e.size = j := by rw [Nat.mul_comm]; exact Nat.div_add_mod j e.size
        obtain ⟨x, r, hx, hc, k1, _⟩ := row _ hq
        have hc := hc _ hr'
        rw [hj'] at hc
        have e1 : ((elems.map (·.1)).map (fun x => elemV (encD e x)))[j / e.size]? = some (elemV (encD e x.1)) := by simp [hx]
        have f1 := flat_get _ e.size _ _ (fun y hy => (hszs y hy).1) e1 _ hr'
        rw [hj', k1.elem.1] at f1
        obtain ⟨c, hcc⟩ : ∃ c, (encD e x.1)[j % e.size]? = some c := ⟨_, List.getElem?_eq_getElem (by rw [k1.alen]; exact hr')⟩
        obtain ⟨v, hv, hvr⟩ := k1.vr.get hcc
        exact ⟨c, v, by rw [f1, hcc], by rw [hc, hv], hvr⟩
      have hspot : 0 < len → a.spot = none := fun h0 => by
        obtain ⟨c, v, _, hv, _⟩ := cell 0 (Nat.mul_pos h0 hpos)
        have : a.add 0 = a := by simp [Addr.add]
        rw [this] at hv
        exact World.cell?_spot hv
      refine ⟨.single ?_ (by simp [AV.refless]) rfl, ?_⟩
      · have key : VR (initKap w) D (.sl e.size ((elems.map (·.1)).map (fun x => elemV (encD e x))) .any) (.slice (some a) ((elems.map (·.1)).map (fun x => elemV (encD e x))).length cap) := by
          refine .sl e.size _ .any a cap (fun j => (w.cell? (a.add j)).getD undef) trivial (by rw [hll]; exact hlc) (fun hne => hspot ?_) (fun y hy => (hszs y hy).1) (.inl fun y hy => (hszs y hy).2) (fun j hj => ?_) (fun j c hc => ?_)
          · rw [← hll]; exact List.length_pos_iff.2 hne
          · rw [flen] at hj
            obtain ⟨c, v, _, hv, _⟩ := cell j hj
            have h0 : 0 < len := Nat.pos_of_ne_zero fun e0 => by rw [e0] at hj; simp at hj
            simp only [initKap, add_spot' (hspot h0), if_true, hv, Option.getD_some]
          · have hj : j < len * e.size := by rw [← flen]; exact (List.getElem?_eq_some_iff.1 hc).1
            obtain ⟨c', v, hc', hv, hvr⟩ := cell j hj
            rw [hc] at hc'
            cases hc'
            simp only [hv, Option.getD_some]
            exact hvr
        rw [hll] at key
        exact key
      · simp only [FitD]
        refine .inr ⟨_, _, rfl, by simp [hlen, hrest]; omega, fun x hx => ?_⟩
        simp only [List.mem_map] at hx
        obtain ⟨y, hy, rfl⟩ := hx
        exact (hmem y hy).choose_spec.2
  | .st fs, t, fuel, cs, d, ps, hs, h => by
    simp only [okSh] at hs
    split at hs <;> try cases hs
    rename_i fl hu
    simp only [Bool.and_eq_true] at hs
    have hsz := Nat.eq_of_beq_eq_true hs.2
    obtain ⟨xs, n, rfl, e1, hl, hxs, hf⟩ := DataW.trod_struct hu h
    cases e1
    have := reads_sound D fs fl.toList 0 n cs xs hs.1 (by simpa using hxs) (by rw [hl, hsz]; omega) (fun i f hi => by simpa using hf i f (by simpa using hi))
    refine ⟨?_, ?_⟩
    · simpa [encD, Sh.size] using this.1
    · simp only [FitD]; exact ⟨_, rfl, this.2⟩
theorem reads_sound (D : Nat) : ∀ (ss : List Sh) (fl : List Field) (off n : Nat) (cs : List Value) (xs : List (DataW H × List MemPlace)), okShs P ss fl off = true → xs.length = fl.length → cs.length = off + Sh.sizes ss →
    (∀ (i : Nat) (f : Field), fl[i]? = some f → DataW.trod enc P w 0 (fun _ => true) true n f.type ((cs.drop f.offset).take (P.cellsOf f.type)) = xs[i]?) →
    RD (initKap w) D (Sh.sizes ss) (encDs ss (xs.map (·.1))) (cs.drop off) ∧ FitDs ss (xs.map (·.1))
  | [], fl, off, n, cs, xs, hs, hx, hl, hf => by
    cases fl with
    | cons f fl => simp [okShs] at hs
    | nil =>
      obtain rfl : xs = [] := List.eq_nil_of_length_eq_zero (by simpa using hx)
      simp only [Sh.sizes, Nat.add_zero] at hl
      rw [List.drop_of_length_le (by omega)]
      exact ⟨⟨.nil _ _, rfl, rfl, fun c hc => by simp [encDs] at hc⟩, by simp [FitDs]⟩
  | s :: ss, fl, off, n, cs, xs, hs, hx, hl, hf => by
    cases fl with
    | nil => simp [okShs] at hs
    | cons f fl =>
      simp only [okShs, Bool.and_eq_true] at hs
      obtain ⟨⟨⟨h1, h2⟩, h3⟩, h4⟩ := hs
      have h1 := Nat.eq_of_beq_eq_true h1
      have h2 := Nat.eq_of_beq_eq_true h2
      cases xs with
      | nil => simp at hx
      | cons x xs =>
        have g0 := hf 0 f rfl
        simp only [List.getElem?_cons_zero] at g0
        rw [h1, h2] at g0
        obtain ⟨k1, k2⟩ := read_sound D s f.type n _ x.1 x.2 h3 g0
        simp only [Sh.sizes] at hl
        obtain ⟨m1, m2⟩ := reads_sound D ss fl (off + s.size) n cs xs h4 (by simpa using hx) (by omega) (fun i f' hi => by simpa using hf (i + 1) f' (by simpa using hi))
        refine ⟨?_, ?_⟩
        · have e1 : cs.drop off = (cs.drop off).take s.size ++ cs.drop (off + s.size) := by
            rw [← List.drop_drop]; exact (List.take_append_drop _ _).symm
          rw [e1]
          simpa [encDs, Sh.sizes] using k1.append m1
        · simp only [List.map_cons, FitDs]
          exact ⟨_, _, rfl, k2, m2⟩
end
end
end Go.Ab
end
section
/- A law that answers true: from the evaluator's run to what its statement asks. -/
namespace Go.Ab
open Go.ChangeShapes Go.WideShapes
section
variable {H : Type} {enc : TypeId × Value → H} {P : Program}
def argD : Sh → DataW H → AV
  | .st fs, d => .agg (encD (.st fs) d)
  | sh, d => (encD sh d).headD .dead
theorem arg_sound {W : World} (D : Nat) {sh : Sh} {t : TypeId} {v : Value} {d : DataW H} {ps : List MemPlace} {base : Nat} (hs : okSh P sh t = true) (hv : Value.okWide P W .any base t v) (h : DataW.Trod enc P W 0 (fun _ => true) true t v d ps) :
    VR (initKap W) D (argD sh d) v ∧ FitD sh d := by
  obtain ⟨fuel, h⟩ := h
  obtain ⟨h1, h2⟩ := read_sound D sh t fuel _ d ps hs h
  refine ⟨?_, h2⟩
  have single : sh.size = 1 → (∀ cs, v ≠ .agg cs) → VR (initKap W) D ((encD sh d).headD .dead) v := fun hz hne => by
    have hc : v.cells.toList = [v] := by
      cases v <;> try rfl
      exact absurd rfl (hne _)
    rw [hc] at h1
    have hal := h1.alen
    rw [hz] at hal
    match hq : encD sh d, hal with
    | [c], _ =>
      obtain ⟨x, hx, hr⟩ := h1.vr.get (j := 0) (c := c) (by rw [hq]; rfl)
      cases hx
      exact hr
  cases sh with
  | st fs =>
    simp only [okSh] at hs
    split at hs <;> try cases hs
    rename_i fl hu
    unfold Value.okWide at hv
    rw [hu] at hv
    obtain ⟨cs, rfl, _, _⟩ := hv
    exact .agg _ cs.toList h1.vr.1 h1.vr.2
  | bool =>
    refine single rfl fun cs e => ?_
    subst e
    simp only [okSh] at hs
    split at hs <;> try cases hs
    rename_i hu
    simp [Value.okWide, hu, Cell.okWide, Cell.ok] at hv
  | int k =>
    refine single rfl fun cs e => ?_
    subst e
    simp only [okSh] at hs
    split at hs <;> try cases hs
    rename_i hu
    simp [Value.okWide, hu, Cell.okWide, Cell.ok] at hv
  | str =>
    refine single rfl fun cs e => ?_
    subst e
    simp only [okSh] at hs
    split at hs <;> try cases hs
    rename_i hu
    simp [Value.okWide, hu, Cell.okWide, Cell.ok] at hv
  | sl e =>
    refine single rfl fun cs e => ?_
    subst e
    simp only [okSh] at hs
    split at hs <;> try cases hs
    rename_i hu
    simp [Value.okWide, hu, Cell.okWide, Cell.ok] at hv
def argsD : List Sh → List (DataW H) → List AV
  | s :: ss, d :: ds => argD s d :: argsD ss ds
  | _, _ => []
def okTys (P : Program) : List Sh → List TypeId → Bool
  | [], [] => true
  | s :: ss, t :: ts => okSh P s t && okTys P ss ts
  | _, _ => false
theorem args_sound {W : World} (D : Nat) {base : Nat} : ∀ (shs : List Sh) (ts : List TypeId) (vs : List Value) (ds : List (DataW H)) (ps : List MemPlace), okTys P shs ts = true → (∀ (j : Nat) t v, ts[j]? = some t → vs[j]? = some v → Value.okWide P W .any base t v) →
    DataW.TrodAll enc P W 0 (fun _ => true) true ts vs ds ps → VRs (initKap W) D (argsD shs ds) vs ∧ FitDs shs ds
  | [], [], vs, ds, ps, _, _, h => by
    cases vs with
    | cons v vs => simp [DataW.TrodAll] at h
    | nil =>
      cases ds with
      | cons d ds => simp [DataW.TrodAll] at h
      | nil => exact ⟨.nil _ _, by simp [FitDs]⟩
  | s :: ss, [], _, _, _, hs, _, _ => by simp [okTys] at hs
  | [], t :: ts, _, _, _, hs, _, _ => by simp [okTys] at hs
  | s :: ss, t :: ts, vs, ds, ps, hs, hv, h => by
    cases vs with
    | nil => cases ds <;> simp [DataW.TrodAll] at h
    | cons v vs =>
      cases ds with
      | nil => simp [DataW.TrodAll] at h
      | cons d ds =>
        simp only [DataW.TrodAll] at h
        obtain ⟨p, q, h1, h2, _⟩ := h
        simp only [okTys, Bool.and_eq_true] at hs
        obtain ⟨k1, k2⟩ := arg_sound D hs.1 (hv 0 t v rfl rfl) h1
        obtain ⟨m1, m2⟩ := args_sound D ss ts vs ds q hs.2 (fun j t' v' ht hv' => hv (j + 1) t' v' (by simpa using ht) (by simpa using hv')) h2
        refine ⟨.cons k1 m1, ?_⟩
        simp only [FitDs]
        exact ⟨_, _, rfl, k2, m2⟩
theorem Left.sameAt {W W' : World} (h : Left W W') {p : MemPlace} (hp : p.block < W.heap.size) : W.sameAt W' p := by
  cases p with
  | cell b off =>
    show W'.cell? _ = W.cell? _
    unfold World.cell?
    simp only [h.old b hp]
  | map b => exact h.old b hp
theorem carryAll {W W' : World} (hl : laidOutB P = true) (hL : Left W W') : ∀ (ts : List TypeId) (vs : List Value) (ds : List (DataW H)) (ps : List MemPlace), (∀ t, t ∈ ts → P.readableRec t = true ∧ t < P.types.size) → (∀ p, p ∈ ps → p.block < W.heap.size) →
    DataW.TrodAll enc P W 0 (fun _ => true) true ts vs ds ps → DataW.TrodAll enc P W' 0 (fun b => decide (b < W.heap.size)) true ts vs ds ps
  | [], vs, ds, ps, _, _, h => by
    cases vs <;> cases ds <;> simp only [DataW.TrodAll] at h ⊢
    exact h
  | t :: ts, vs, ds, ps, ht, hp, h => by
    cases vs with
    | nil => cases ds <;> simp [DataW.TrodAll] at h
    | cons v vs =>
      cases ds with
      | nil => simp [DataW.TrodAll] at h
      | cons d ds =>
        simp only [DataW.TrodAll] at h ⊢
        obtain ⟨p, q, h1, h2, rfl⟩ := h
        have hr := ht t (by simp)
        exact ⟨p, q, WideElems.Trod_stays hl hr.1 hr.2 h1 (fun x hx => hL.sameAt (hp x (by simp [hx]))) (fun x hx => by simpa using hp x (by simp [hx])),
          carryAll hl hL ts vs ds q (fun t' h' => ht t' (by simp [h'])) (fun x hx => hp x (by simp [hx])) h2, rfl⟩
theorem Left.keptBut {W W' : World} (h : Left W W') (may : MemPlace → Prop) : W.keptBut W' may := by
  refine ⟨h.os, h.output, fun i hi => ?_⟩
  rw [h.old i hi]
  have : ∃ o, W.heap[i]? = some o := ⟨_, Array.getElem?_eq_getElem hi⟩
  obtain ⟨o, ho⟩ := this
  rw [ho]
  cases o <;> simp
theorem post_true {f : Func} {s : ChangeSpec} {W W' : World} {args : Array Value} {ds gs : List (DataW H)} {before : List MemPlace} (hW : DataW.Whole enc P f.params.toList s.vars false W args.toList ds gs before) (hv : s.vars = [])
    (hf : ∀ (l : List (DataW H)), l.length = f.params.size → s.fn H l = { results := [.lit (.bool true)], args := l, vars := [] }) {tb : TypeId} (hrt : f.resultTypes = #[tb]) (htb : P.underlying tb = some .bool) (hl : laidOutB P = true)
    (hps : ∀ t, t ∈ f.params.toList → P.readableRec t = true ∧ t < P.types.size) (hL : Left W W') : s.post enc P f false true false false W args (.bool true) W' := by
  have hW' := hW
  have hlt := hW.lt
  obtain ⟨p, q, hA, hV, rfl, _, _⟩ := hW
  rw [hv] at hV
  have hV' : gs = [] ∧ q = [] := by cases gs <;> simp [DataW.TrodVars] at hV; exact ⟨rfl, hV⟩
  obtain ⟨rfl, rfl⟩ := hV'
  have hlen : ∀ (ts : List TypeId) (vs : List Value) (ds : List (DataW H)) (ps : List MemPlace), DataW.TrodAll enc P W 0 (fun _ => true) true ts vs ds ps → ds.length = ts.length := by
    intro ts
    induction ts with
    | nil => intro vs ds ps h; cases vs <;> cases ds <;> simp [DataW.TrodAll] at h ⊢
    | cons t ts ih =>
      intro vs ds ps h
      cases vs <;> cases ds <;> simp only [DataW.TrodAll] at h
      obtain ⟨_, _, _, h2, _⟩ := h
      simp [ih _ _ _ h2]
  have hfn := hf (ds ++ []) (by simpa using hlen _ _ _ _ hA)
  refine ⟨ds, [], p ++ [], [], p, [], hW', ?_, ?_, ?_, hL.keptBut _, fun h => by cases h⟩
  · rw [hfn, hrt]
    exact ⟨[], [], ⟨1, by simp [DataW.trod, Value.cells, htb]⟩, rfl, rfl⟩
  · rw [hfn]
    simp only [List.append_nil] at hlt ⊢
    exact carryAll hl hL _ _ _ _ hps hlt hA
  · rw [hfn, hv]
    rfl
end
end Go.Ab
end
