/- What an abstract value and the stack of abstract objects say about the machine's values and memory. -/
import Derived.Test.YtnafklimohmfkaaDoorAbs
import Derived.Laws.World
import Derived.Laws.Cells
import Derived.Laws.Entries
namespace Go.Ab

/-- How the abstract side lies in memory: the cells that no longer change, the block of each object, the number of objects of each frame, and where a growing slice lay when it had so many elements (its address, its capacity, its elements' size). -/
structure Kap where
  F : Addr → Option Value
  n : Nat → Nat
  loc : Nat → Nat → Nat
  tk : Nat → Nat → Nat → Option (Addr × Nat × Nat)

def GrOK (κ : Kap) (D : Nat) (sz : Nat) : Gr → Nat → Addr → Nat → Prop
  | .nil, _, _, _ => False
  | .exact, n, _, cap => cap = n
  | .any, _, _, _ => True
  | .buf (.g d i), n, a, cap => d < D ∧ i < κ.n d ∧ κ.tk d i n = some (a, cap, sz)
  | .buf (.l _), _, _, _ => False

inductive VR (κ : Kap) (D : Nat) : AV → Value → Prop
  | dead (x : Value) : VR κ D .dead x
  | bool (b : Bool) : VR κ D (.bool b) (.bool b)
  | int (k : IntKind) (n : Int) : VR κ D (.int k n) (.int k n)
  | str (bs : List Nat) (s : ByteArray) (h : s.data.toList.map UInt8.toNat = bs) : VR κ D (.str bs) (.string s)
  | slNil (sz : Nat) : VR κ D (.sl sz [] .nil) (.slice none 0 0)
  | sl (sz : Nat) (es : List AV) (g : Gr) (a : Addr) (cap : Nat) (vals : Nat → Value) (hg : GrOK κ D sz g es.length a cap) (hn : es.length ≤ cap) (hs : es ≠ [] → a.spot = none)
      (hsz : ∀ e, e ∈ es → e.cells.length = sz) (hr : ∀ e, e ∈ es → e.refless = true)
      (hF : ∀ j, j < (es.flatMap AV.cells).length → κ.F (a.add j) = some (vals j))
      (hv : ∀ (j : Nat) (c : AV), (es.flatMap AV.cells)[j]? = some c → VR κ D c (vals j)) : VR κ D (.sl sz es g) (.slice (some a) es.length cap)
  | msl (d i off len cap sz : Nat) (hd : d < D) (hi : i < κ.n d) (hl : len ≤ cap) : VR κ D (.msl (.g d i) off len cap sz) (.slice (some ⟨κ.loc d i, off, none⟩) len cap)
  | ref (d i off : Nat) (hd : d < D) (hi : i < κ.n d) : VR κ D (.ref (.g d i) off) (.pointer (some ⟨κ.loc d i, off, none⟩))
  | vptr (cs : List AV) (a : Addr) (vals : Nat → Value) (hs : a.spot = none) (hF : ∀ j, j < cs.length → κ.F (a.add j) = some (vals j))
      (hv : ∀ (j : Nat) (c : AV), cs[j]? = some c → VR κ D c (vals j)) : VR κ D (.vptr cs) (.pointer (some a))
  | nilp : VR κ D .nilp (.pointer none)
  | fn (f : Nat) (cs : List AV) (xs : List Value) (hl : xs.length = cs.length) (hv : ∀ (j : Nat) (c : AV) (x : Value), cs[j]? = some c → xs[j]? = some x → VR κ D c x) : VR κ D (.fn f cs) (.func (.func f) #[] xs.toArray)
  | nilf : VR κ D .nilf .nilFunc
  | nilmap : VR κ D .nilmap (.map none)
  | map (d i : Nat) (hd : d < D) (hi : i < κ.n d) : VR κ D (.map (.g d i)) (.map (some (κ.loc d i)))
  | iface (t : Nat) (v : AV) (x : Value) (h : VR κ D v x) : VR κ D (.iface t v) (.iface t x)
  | nili : VR κ D .nili .nilIface
  | agg (cs : List AV) (xs : List Value) (hl : xs.length = cs.length) (hv : ∀ (j : Nat) (c : AV) (x : Value), cs[j]? = some c → xs[j]? = some x → VR κ D c x) : VR κ D (.agg cs) (.agg xs.toArray)
  | tup (cs : List AV) (xs : List Value) (hl : xs.length = cs.length) (hv : ∀ (j : Nat) (c : AV) (x : Value), cs[j]? = some c → xs[j]? = some x → VR κ D c x) : VR κ D (.tup cs) (.tuple xs.toArray)

/-- Lists of values, one by one. -/
def VRs (κ : Kap) (D : Nat) (cs : List AV) (xs : List Value) : Prop := xs.length = cs.length ∧ ∀ (j : Nat) (c : AV) (x : Value), cs[j]? = some c → xs[j]? = some x → VR κ D c x

/-- The second lays what the first lays, for the frames below D. -/
structure KLe (κ κ' : Kap) (D : Nat) : Prop where
  F : ∀ a v, κ.F a = some v → κ'.F a = some v
  n : ∀ d, d < D → κ.n d ≤ κ'.n d
  loc : ∀ d i, d < D → i < κ.n d → κ'.loc d i = κ.loc d i
  tk : ∀ d i n x, d < D → i < κ.n d → κ.tk d i n = some x → κ'.tk d i n = some x

theorem KLe.refl (κ : Kap) (D : Nat) : KLe κ κ D := ⟨fun _ _ h => h, fun _ _ => Nat.le_refl _, fun _ _ _ _ => rfl, fun _ _ _ _ _ _ h => h⟩
theorem KLe.trans {κ κ' κ'' : Kap} {D : Nat} (h : KLe κ κ' D) (k : KLe κ' κ'' D) : KLe κ κ'' D :=
  ⟨fun a v e => k.F a v (h.F a v e), fun d hd => Nat.le_trans (h.n d hd) (k.n d hd),
   fun d i hd hi => (k.loc d i hd (Nat.lt_of_lt_of_le hi (h.n d hd))).trans (h.loc d i hd hi),
   fun d i n x hd hi e => k.tk d i n x hd (Nat.lt_of_lt_of_le hi (h.n d hd)) (h.tk d i n x hd hi e)⟩
theorem KLe.low {κ κ' : Kap} {D D' : Nat} (h : KLe κ κ' D) (hD : D' ≤ D) : KLe κ κ' D' :=
  ⟨h.F, fun d hd => h.n d (Nat.lt_of_lt_of_le hd hD), fun d i hd => h.loc d i (Nat.lt_of_lt_of_le hd hD), fun d i n x hd => h.tk d i n x (Nat.lt_of_lt_of_le hd hD)⟩

theorem GrOK.mono {κ κ' : Kap} {D sz n cap : Nat} {g : Gr} {a : Addr} (h : GrOK κ D sz g n a cap) (k : KLe κ κ' D) : GrOK κ' D sz g n a cap := by
  unfold GrOK at *
  split at h <;> simp_all
  obtain ⟨h1, h2, h3⟩ := h
  exact ⟨Nat.lt_of_lt_of_le h2 (k.n _ h1), k.tk _ _ _ _ h1 h2 h3⟩

theorem VR.mono {κ κ' : Kap} {D : Nat} {v : AV} {x : Value} (h : VR κ D v x) (k : KLe κ κ' D) : VR κ' D v x := by
  induction h with
  | dead x => exact .dead x
  | bool b => exact .bool b
  | int k n => exact .int k n
  | str bs s h => exact .str bs s h
  | slNil sz => exact .slNil sz
  | sl sz es g a cap vals hg hn hs hsz hr hF hv ih => exact .sl sz es g a cap vals (hg.mono k) hn hs hsz hr (fun j hj => k.F _ _ (hF j hj)) ih
  | msl d i off len cap sz hd hi hl => rw [← k.loc d i hd hi]; exact .msl d i off len cap sz hd (Nat.lt_of_lt_of_le hi (k.n d hd)) hl
  | ref d i off hd hi => rw [← k.loc d i hd hi]; exact .ref d i off hd (Nat.lt_of_lt_of_le hi (k.n d hd))
  | vptr cs a vals hs hF hv ih => exact .vptr cs a vals hs (fun j hj => k.F _ _ (hF j hj)) ih
  | nilp => exact .nilp
  | fn f cs xs hl hv ih => exact .fn f cs xs hl ih
  | nilf => exact .nilf
  | nilmap => exact .nilmap
  | map d i hd hi => rw [← k.loc d i hd hi]; exact .map d i hd (Nat.lt_of_lt_of_le hi (k.n d hd))
  | iface t v x h ih => exact .iface t v x ih
  | nili => exact .nili
  | agg cs xs hl hv ih => exact .agg cs xs hl ih
  | tup cs xs hl hv ih => exact .tup cs xs hl ih

theorem VR.up {κ : Kap} {D D' : Nat} {v : AV} {x : Value} (h : VR κ D v x) (hD : D ≤ D') : VR κ D' v x := by
  induction h with
  | dead x => exact .dead x
  | bool b => exact .bool b
  | int k n => exact .int k n
  | str bs s h => exact .str bs s h
  | slNil sz => exact .slNil sz
  | sl sz es g a cap vals hg hn hs hsz hr hF hv ih =>
    refine .sl sz es g a cap vals ?_ hn hs hsz hr hF ih
    unfold GrOK at *
    split at hg <;> simp_all
    exact Nat.lt_of_lt_of_le hg.1 hD
  | msl d i off len cap sz hd hi hl => exact .msl d i off len cap sz (Nat.lt_of_lt_of_le hd hD) hi hl
  | ref d i off hd hi => exact .ref d i off (Nat.lt_of_lt_of_le hd hD) hi
  | vptr cs a vals hs hF hv ih => exact .vptr cs a vals hs hF ih
  | nilp => exact .nilp
  | fn f cs xs hl hv ih => exact .fn f cs xs hl ih
  | nilf => exact .nilf
  | nilmap => exact .nilmap
  | map d i hd hi => exact .map d i (Nat.lt_of_lt_of_le hd hD) hi
  | iface t v x h ih => exact .iface t v x ih
  | nili => exact .nili
  | agg cs xs hl hv ih => exact .agg cs xs hl ih
  | tup cs xs hl hv ih => exact .tup cs xs hl ih

theorem reflessL_get {cs : List AV} (h : AV.reflessL cs = true) {j : Nat} {c : AV} (hc : cs[j]? = some c) : c.refless = true := by
  induction cs generalizing j with
  | nil => simp at hc
  | cons v vs ih =>
    simp only [AV.reflessL, Bool.and_eq_true] at h
    cases j with
    | zero => simp at hc; exact hc ▸ h.1
    | succ j => exact ih h.2 (by simpa using hc)
theorem reflessL_iff {cs : List AV} : AV.reflessL cs = true ↔ ∀ c, c ∈ cs → c.refless = true := by
  induction cs with
  | nil => simp [AV.reflessL]
  | cons v vs ih => simp [AV.reflessL, ih]
theorem refless_cells {e : AV} (h : e.refless = true) {c : AV} (hc : c ∈ e.cells) : c.refless = true := by
  unfold AV.cells at hc
  split at hc
  · exact reflessL_iff.1 (by simpa [AV.refless] using h) c hc
  · simp at hc; exact hc ▸ h

/-- A value without references hangs on the frozen cells alone. -/
theorem VR.refless {κ : Kap} {D : Nat} {v : AV} {x : Value} (h : VR κ D v x) (hr : v.refless = true) {κ' : Kap} (D' : Nat) (hF : ∀ a v, κ.F a = some v → κ'.F a = some v) : VR κ' D' v x := by
  induction h with
  | dead x => exact .dead x
  | bool b => exact .bool b
  | int k n => exact .int k n
  | str bs s h => exact .str bs s h
  | slNil sz => exact .slNil sz
  | sl sz es g a cap vals hg hn hs hsz hr' hFF hv ih =>
    refine .sl sz es g a cap vals ?_ hn hs hsz hr' (fun j hj => hF _ _ (hFF j hj)) (fun j c hc => ih j c hc ?_)
    · cases g <;> simp_all [AV.refless, GrOK]
    · obtain ⟨e, he, hce⟩ := List.mem_flatMap.1 (List.mem_of_getElem? hc)
      exact refless_cells (hr' e he) hce
  | msl d i off len cap sz hd hi hl => simp [AV.refless] at hr
  | ref d i off hd hi => simp [AV.refless] at hr
  | vptr cs a vals hs hFF hv ih => exact .vptr cs a vals hs (fun j hj => hF _ _ (hFF j hj)) (fun j c hc => ih j c hc (reflessL_get (by simpa [AV.refless] using hr) hc))
  | nilp => exact .nilp
  | fn f cs xs hl hv ih => exact .fn f cs xs hl (fun j c x hc hx => ih j c x hc hx (reflessL_get (by simpa [AV.refless] using hr) hc))
  | nilf => exact .nilf
  | nilmap => exact .nilmap
  | map d i hd hi => simp [AV.refless] at hr
  | iface t v x h ih => exact .iface t v x (ih (by simpa [AV.refless] using hr))
  | nili => exact .nili
  | agg cs xs hl hv ih => exact .agg cs xs hl (fun j c x hc hx => ih j c x hc hx (reflessL_get (by simpa [AV.refless] using hr) hc))
  | tup cs xs hl hv ih => exact .tup cs xs hl (fun j c x hc hx => ih j c x hc hx (reflessL_get (by simpa [AV.refless] using hr) hc))

theorem refless_pub {v : AV} (h : v.refless = true) (d : Nat) : v.pub d = v := by
  cases v <;> simp_all [AV.refless, AV.pub]
  rename_i g
  cases g <;> simp_all [AV.refless, Gr.pub]

theorem lowL_get {d : Nat} {cs : List AV} (h : AV.lowL d cs = true) {j : Nat} {c : AV} (hc : cs[j]? = some c) : c.low d = true := by
  induction cs generalizing j with
  | nil => simp at hc
  | cons v vs ih =>
    simp only [AV.lowL, Bool.and_eq_true] at h
    cases j with
    | zero => simp at hc; exact hc ▸ h.1
    | succ j => exact ih h.2 (by simpa using hc)
/-- A value that refers to no object above a depth. -/
theorem VR.lower {κ : Kap} {D d : Nat} {v : AV} {x : Value} (h : VR κ D v x) (hl : v.low d = true) : VR κ (d + 1) v x := by
  induction h with
  | dead x => exact .dead x
  | bool b => exact .bool b
  | int k n => exact .int k n
  | str bs s h => exact .str bs s h
  | slNil sz => exact .slNil sz
  | sl sz es g a cap vals hg hn hs hsz hr' hFF hv ih =>
    refine .sl sz es g a cap vals ?_ hn hs hsz hr' hFF (fun j c hc => ?_)
    · cases g with
      | buf l =>
        cases l with
        | l i => simp [AV.low, Loc.low] at hl
        | g e i => exact ⟨Nat.lt_succ_of_le (Nat.le_of_ble_eq_true (by simpa [AV.low, Loc.low] using hl)), hg.2⟩
      | nil => exact hg
      | exact => exact hg
      | any => exact hg
    · obtain ⟨e, he, hce⟩ := List.mem_flatMap.1 (List.mem_of_getElem? hc)
      exact (hv j c hc).refless (refless_cells (hr' e he) hce) _ (fun _ _ h => h)
  | msl e i off len cap sz hd hi hl' => exact .msl e i off len cap sz (Nat.lt_succ_of_le (Nat.le_of_ble_eq_true (by simpa [AV.low, Loc.low] using hl))) hi hl'
  | ref e i off hd hi => exact .ref e i off (Nat.lt_succ_of_le (Nat.le_of_ble_eq_true (by simpa [AV.low, Loc.low] using hl))) hi
  | vptr cs a vals hs hFF hv ih => exact .vptr cs a vals hs hFF (fun j c hc => ih j c hc (lowL_get (by simpa [AV.low] using hl) hc))
  | nilp => exact .nilp
  | fn f cs xs hl' hv ih => exact .fn f cs xs hl' (fun j c x hc hx => ih j c x hc hx (lowL_get (by simpa [AV.low] using hl) hc))
  | nilf => exact .nilf
  | nilmap => exact .nilmap
  | map e i hd hi => exact .map e i (Nat.lt_succ_of_le (Nat.le_of_ble_eq_true (by simpa [AV.low, Loc.low] using hl))) hi
  | iface t v x h ih => exact .iface t v x (ih (by simpa [AV.low] using hl))
  | nili => exact .nili
  | agg cs xs hl' hv ih => exact .agg cs xs hl' (fun j c x hc hx => ih j c x hc hx (lowL_get (by simpa [AV.low] using hl) hc))
  | tup cs xs hl' hv ih => exact .tup cs xs hl' (fun j c x hc hx => ih j c x hc hx (lowL_get (by simpa [AV.low] using hl) hc))

/-! ### Objects -/
def unfz (fz : Nat × Nat) (n : Nat) : Prop := ∀ j, j < n → ¬ (fz.1 ≤ j ∧ j < fz.2)

/-- The entries of a map. -/
def MapR (κ : Kap) (D : Nat) (es : List (AV × AV)) (ents : List MapEntry) : Prop :=
  ents.length = es.length ∧ ∀ (j : Nat) (p : AV × AV) (e : MapEntry), es[j]? = some p → ents[j]? = some e → VR κ D p.1 e.key ∧ VR κ D p.2 e.val
theorem MapR.mono {κ κ' : Kap} {D : Nat} {es : List (AV × AV)} {ents : List MapEntry} (h : MapR κ D es ents) (k : KLe κ κ' D) : MapR κ' D es ents :=
  ⟨h.1, fun j p e hp he => ⟨(h.2 j p e hp he).1.mono k, (h.2 j p e hp he).2.mono k⟩⟩

def OR (κ : Kap) (d i : Nat) (w : World) : AObj → Prop
  | .cells cs => (∃ C e fz, w.heap[κ.loc d i]? = some (.cells C e fz) ∧ unfz fz C.size ∧ VRs κ (d + 1) cs C.toList) ∧ ∀ o, κ.F ⟨κ.loc d i, o, none⟩ = none
  | .tok n => ∃ b cap sz, κ.tk d i n = some (⟨b, 0, none⟩, cap, sz) ∧ n ≤ cap ∧ (∃ C e fz, w.heap[b]? = some (.cells C e fz) ∧ C.size = cap * sz ∧ unfz fz C.size) ∧ (∀ o, n * sz ≤ o → κ.F ⟨b, o, none⟩ = none) ∧ ∀ m, n < m → κ.tk d i m = none
  | .gone => True
  | .map es => ∃ ents clock, w.heap[κ.loc d i]? = some (.map ents clock) ∧ MapR κ (d + 1) es ents.toList

def blockOf (κ : Kap) (d i : Nat) : AObj → Option Nat
  | .cells _ | .map _ => some (κ.loc d i)
  | .tok n => (κ.tk d i n).map (·.1.block)
  | .gone => none

/-- The objects of the frame at a depth. -/
def St.fr (s : St) (d : Nat) : Option (List AObj) := if d = s.depth then some s.own else if d < s.depth then (s.up ++ s.ro)[s.depth - 1 - d]? else none

theorem St.get_g (s : St) (d i : Nat) : s.get (.g d i) = (s.fr d).bind (·[i]?) := by
  unfold St.get St.fr
  by_cases h : d = s.depth
  · simp [h]
  · by_cases h' : d < s.depth <;> simp [h, h']
theorem St.get_pub (s : St) (a : Loc) : s.get (a.pub s.depth) = s.get a := by
  cases a with
  | l i => simp [Loc.pub, St.get]
  | g d i => rfl

structure Sim (κ : Kap) (s : St) (w : World) : Prop where
  froz : ∀ a v, κ.F a = some v → a.spot = none ∧ w.cell? a = some v
  len : ∀ d l, s.fr d = some l → l.length = κ.n d
  obj : ∀ d i o, s.get (.g d i) = some o → OR κ d i w o
  inj : ∀ d i o d' i' o' b, s.get (.g d i) = some o → s.get (.g d' i') = some o' → blockOf κ d i o = some b → blockOf κ d' i' o' = some b → d = d' ∧ i = i'

/-- A block of an object that may be written. -/
def Live (κ : Kap) (s : St) (b : Nat) : Prop := ∃ d i o, s.get (.g d i) = some o ∧ blockOf κ d i o = some b

structure Ext (κ : Kap) (s : St) (w : World) (κ' : Kap) (s' : St) (w' : World) : Prop where
  k : KLe κ κ' (s.depth + 1)
  depth : s'.depth = s.depth
  size : w.heap.size ≤ w'.heap.size
  os : w'.os = w.os
  tape : w'.tape = w.tape
  output : w'.output = w.output
  chg : ∀ b, b < w.heap.size → ¬ Live κ s b → w'.heap[b]? = w.heap[b]?
  live : ∀ b, b < w.heap.size → Live κ' s' b → Live κ s b
  frz : ∀ a, κ'.F a ≠ none → κ.F a ≠ none ∨ w.heap.size ≤ a.block ∨ Live κ s a.block

theorem Ext.refl (κ : Kap) (s : St) (w : World) : Ext κ s w κ s w :=
  ⟨.refl _ _, rfl, Nat.le_refl _, rfl, rfl, rfl, fun _ _ _ => rfl, fun _ _ h => h, fun _ h => .inl h⟩
theorem Ext.trans {κ κ₁ κ₂ : Kap} {s s₁ s₂ : St} {w w₁ w₂ : World} (h : Ext κ s w κ₁ s₁ w₁) (k : Ext κ₁ s₁ w₁ κ₂ s₂ w₂) : Ext κ s w κ₂ s₂ w₂ := by
  refine ⟨h.k.trans (h.depth ▸ k.k), k.depth.trans h.depth, Nat.le_trans h.size k.size, k.os.trans h.os, k.tape.trans h.tape, k.output.trans h.output, fun b hb hl => ?_, fun b hb hl => ?_, fun a ha => ?_⟩
  · rw [k.chg b (Nat.lt_of_lt_of_le hb h.size) (fun h' => hl (h.live b hb h')), h.chg b hb hl]
  · exact h.live b hb (k.live b (Nat.lt_of_lt_of_le hb h.size) hl)
  · rcases k.frz a ha with h1 | h1 | h1
    · exact h.frz a h1
    · exact .inr (.inl (Nat.le_trans h.size h1))
    · by_cases hb : a.block < w.heap.size
      · exact .inr (.inr (h.live _ hb h1))
      · exact .inr (.inl (by omega))

/-- The temporaries of the running frame. -/
def FR (κ : Kap) (s : St) (fr : Nat → AV) (a : Act) : Prop := ∀ t, VR κ (s.depth + 1) ((fr t).pub s.depth) (a.tmps.getD t undef)

theorem FR.ext {κ κ' : Kap} {s s' : St} {w w' : World} {fr : Nat → AV} {a : Act} (h : FR κ s fr a) (e : Ext κ s w κ' s' w') : FR κ' s' fr a := by
  intro t
  have := (h t).mono e.k
  rw [e.depth]
  exact this

theorem add_spot {a : Addr} (h : a.spot = none) (j : Nat) : a.add j = ⟨a.block, a.off + j, none⟩ := by
  unfold Addr.add
  split
  · subst_vars; cases a; simp_all
  · cases a; simp_all
theorem add_add {a : Addr} (i j : Nat) : (a.add i).add j = a.add (i + j) := by
  unfold Addr.add
  by_cases hi : i = 0 <;> by_cases hj : j = 0 <;> simp_all <;> omega
theorem add_spot' {a : Addr} (h : a.spot = none) (j : Nat) : (a.add j).spot = none := by rw [add_spot h]
theorem add_block (a : Addr) (j : Nat) : (a.add j).block = a.block := by unfold Addr.add; split <;> rfl
end Go.Ab
