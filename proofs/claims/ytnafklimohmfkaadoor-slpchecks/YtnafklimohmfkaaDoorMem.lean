/- The moves of the machine's memory that the abstract side makes: new blocks, stores, growth, freezing, frames. -/
import Derived.Test.YtnafklimohmfkaaDoorRel
import Derived.Laws.IdiomCopy
namespace Go.Ab

theorem splice_length {α : Type} (vs : List α) : ∀ (cs : List α) (o : Nat), (splice cs o vs).length = cs.length := by
  induction vs with
  | nil => intro cs o; rfl
  | cons v vs ih => intro cs o; simp [splice, ih]
theorem splice_get {α : Type} (vs : List α) : ∀ (cs : List α) (o : Nat), o + vs.length ≤ cs.length → ∀ j, (splice cs o vs)[j]? = if o ≤ j ∧ j < o + vs.length then vs[j - o]? else cs[j]? := by
  induction vs with
  | nil => intro cs o _ j; simp [splice]; omega
  | cons v vs ih =>
    intro cs o h j
    simp only [List.length_cons] at h
    simp only [splice]
    rw [ih (cs.set o v) (o + 1) (by simp; omega)]
    by_cases hj : j = o
    · subst hj
      rw [if_neg (by omega), if_pos (by simp)]
      simp only [Nat.sub_self, List.getElem?_cons_zero]
      rw [List.getElem?_set_self (by omega)]
    · by_cases h1 : o + 1 ≤ j ∧ j < o + 1 + vs.length
      · rw [if_pos h1, if_pos (by simp; omega)]
        obtain ⟨m, rfl⟩ : ∃ m, j = o + 1 + m := ⟨j - (o + 1), by omega⟩
        simp only [show o + 1 + m - (o + 1) = m by omega, show o + 1 + m - o = m + 1 by omega, List.getElem?_cons_succ]
      · rw [if_neg h1, if_neg (by simp; omega)]
        rw [List.getElem?_set_ne (by omega)]

theorem setCells_heap (vs : List Value) : ∀ (w : World) (b o : Nat) (C : Array Value) (e : TypeId) (fz : Nat × Nat), w.heap[b]? = some (.cells C e fz) → o + vs.length ≤ C.size →
    ∀ b', (w.setCells b o vs).heap[b']? = if b' = b then some (.cells (splice C.toList o vs).toArray e fz) else w.heap[b']? := by
  induction vs with
  | nil => intro w b o C e fz hb _ b'; simp only [World.setCells, splice]; split <;> simp_all
  | cons v vs ih =>
    intro w b o C e fz hb ho b'
    simp only [List.length_cons] at ho
    have h1 : (w.setCell ⟨b, o, none⟩ v).heap[b]? = some (.cells (C.setIfInBounds o v) e fz) := by
      simp [World.setCell, Array.getElem?_modify, hb]
    rw [World.setCells, ih _ b (o + 1) _ e fz h1 (by simp; omega)]
    split
    · simp [splice, Array.toList_setIfInBounds]
    · rename_i hne
      simp [World.setCell, Array.getElem?_modify, Ne.symm hne]
theorem setCells_size (vs : List Value) : ∀ (w : World) (b o : Nat), (w.setCells b o vs).heap.size = w.heap.size := by
  induction vs with
  | nil => intro w b o; rfl
  | cons v vs ih => intro w b o; simp [World.setCells, ih]
theorem setCells_rest (vs : List Value) : ∀ (w : World) (b o : Nat), (w.setCells b o vs).os = w.os ∧ (w.setCells b o vs).tape = w.tape ∧ (w.setCells b o vs).output = w.output := by
  induction vs with
  | nil => intro w b o; exact ⟨rfl, rfl, rfl⟩
  | cons v vs ih => intro w b o; simp only [World.setCells]; exact ih _ b (o + 1)

theorem cell_of_heap {w : World} {b o : Nat} {C : Array Value} {e : TypeId} {fz : Nat × Nat} (h : w.heap[b]? = some (.cells C e fz)) : w.cell? ⟨b, o, none⟩ = C[o]? := by
  simp [World.cell?, h]
theorem cell_heap_eq {w w' : World} {a : Addr} (h : w'.heap[a.block]? = w.heap[a.block]?) : w'.cell? a = w.cell? a := by
  simp [World.cell?, h]
theorem cell_lt {w : World} {a : Addr} {v : Value} (h : w.cell? a = some v) : a.block < w.heap.size := by
  unfold World.cell? at h
  split at h
  · rename_i hb; exact (Array.getElem?_eq_some_iff.1 hb).1
  · cases h

theorem VRs.get {κ : Kap} {D : Nat} {cs : List AV} {xs : List Value} (h : VRs κ D cs xs) {j : Nat} {c : AV} (hc : cs[j]? = some c) : ∃ x, xs[j]? = some x ∧ VR κ D c x := by
  have hj : j < xs.length := by rw [h.1]; exact (List.getElem?_eq_some_iff.1 hc).1
  exact ⟨xs[j], List.getElem?_eq_getElem hj, h.2 j c _ hc (List.getElem?_eq_getElem hj)⟩
theorem VRs.mono {κ κ' : Kap} {D : Nat} {cs : List AV} {xs : List Value} (h : VRs κ D cs xs) (k : KLe κ κ' D) : VRs κ' D cs xs :=
  ⟨h.1, fun j c x hc hx => (h.2 j c x hc hx).mono k⟩
theorem VRs.up {κ : Kap} {D D' : Nat} {cs : List AV} {xs : List Value} (h : VRs κ D cs xs) (k : D ≤ D') : VRs κ D' cs xs :=
  ⟨h.1, fun j c x hc hx => (h.2 j c x hc hx).up k⟩
theorem VRs.nil (κ : Kap) (D : Nat) : VRs κ D [] [] := ⟨rfl, fun j c x hc => by simp at hc⟩
theorem VRs.cons {κ : Kap} {D : Nat} {c : AV} {x : Value} {cs : List AV} {xs : List Value} (h : VR κ D c x) (hs : VRs κ D cs xs) : VRs κ D (c :: cs) (x :: xs) := by
  refine ⟨by simp [hs.1], fun j c' x' hc hx => ?_⟩
  cases j with
  | zero => simp at hc hx; exact hc ▸ hx ▸ h
  | succ j => exact hs.2 j c' x' (by simpa using hc) (by simpa using hx)
theorem VRs.append {κ : Kap} {D : Nat} {cs ds : List AV} {xs ys : List Value} (h : VRs κ D cs xs) (k : VRs κ D ds ys) : VRs κ D (cs ++ ds) (xs ++ ys) := by
  refine ⟨by simp [h.1, k.1], fun j c x hc hx => ?_⟩
  by_cases hj : j < cs.length
  · rw [List.getElem?_append_left hj] at hc
    rw [List.getElem?_append_left (by rw [h.1]; exact hj)] at hx
    exact h.2 j c x hc hx
  · rw [List.getElem?_append_right (by omega)] at hc
    rw [List.getElem?_append_right (by rw [h.1]; omega), h.1] at hx
    exact k.2 _ c x hc hx
theorem VRs.uncons {κ : Kap} {D : Nat} {c : AV} {cs : List AV} {xs : List Value} (h : VRs κ D (c :: cs) xs) : ∃ x ys, xs = x :: ys ∧ VR κ D c x ∧ VRs κ D cs ys := by
  cases xs with
  | nil => have := h.1; simp at this
  | cons x ys => exact ⟨x, ys, rfl, h.2 0 c x rfl rfl, by simpa using h.1, fun j c' x' hc hx => h.2 (j + 1) c' x' (by simpa using hc) (by simpa using hx)⟩
theorem VRs.drop {κ : Kap} {D : Nat} {cs : List AV} {xs : List Value} (h : VRs κ D cs xs) (n : Nat) : VRs κ D (cs.drop n) (xs.drop n) :=
  ⟨by simp [h.1], fun j c x hc hx => h.2 (n + j) c x (by simpa using hc) (by simpa using hx)⟩
theorem VRs.take {κ : Kap} {D : Nat} {cs : List AV} {xs : List Value} (h : VRs κ D cs xs) (n : Nat) : VRs κ D (cs.take n) (xs.take n) := by
  refine ⟨by simp [h.1], fun j c x hc hx => ?_⟩
  simp only [List.getElem?_take] at hc hx
  split at hc <;> simp_all
  exact h.2 j c x hc hx
theorem VRs.splice {κ : Kap} {D : Nat} {cs vs : List AV} {xs ys : List Value} (h : VRs κ D cs xs) (k : VRs κ D vs ys) {o : Nat} (ho : o + vs.length ≤ cs.length) : VRs κ D (splice cs o vs) (Ab.splice xs o ys) := by
  refine ⟨by simp [splice_length, h.1], fun j c x hc hx => ?_⟩
  rw [splice_get _ _ _ ho] at hc
  rw [splice_get _ _ _ (by rw [k.1, h.1]; exact ho), k.1] at hx
  split at hc
  · rw [if_pos (by assumption)] at hx; exact k.2 _ _ _ hc hx
  · rw [if_neg (by assumption)] at hx; exact h.2 _ _ _ hc hx
theorem VRs.refless {κ : Kap} {D : Nat} {cs : List AV} {xs : List Value} (h : VRs κ D cs xs) (hr : AV.reflessL cs = true) {κ' : Kap} (D' : Nat) (hF : ∀ a v, κ.F a = some v → κ'.F a = some v) : VRs κ' D' cs xs :=
  ⟨h.1, fun j c x hc hx => (h.2 j c x hc hx).refless (reflessL_get hr hc) D' hF⟩

/-! ### Blocks of live objects -/
theorem OR.block {κ : Kap} {d i : Nat} {w : World} {o : AObj} {b : Nat} (h : OR κ d i w o) (hb : blockOf κ d i o = some b) : ∃ ob, w.heap[b]? = some ob := by
  cases o with
  | cells cs => simp only [blockOf, Option.some.injEq] at hb; subst hb; obtain ⟨⟨C, e, fz, h1, _⟩, _⟩ := h; exact ⟨_, h1⟩
  | tok n =>
    obtain ⟨b', cap, sz, h1, _, ⟨C, e, fz, h2, _⟩, _⟩ := h
    simp only [blockOf, h1, Option.map_some, Option.some.injEq] at hb
    subst hb
    exact ⟨_, h2⟩
  | map es => simp only [blockOf, Option.some.injEq] at hb; subst hb; obtain ⟨ents, clock, h1, _⟩ := h; exact ⟨_, h1⟩
  | gone => simp [blockOf] at hb
theorem Sim.live_lt {κ : Kap} {s : St} {w : World} (hs : Sim κ s w) {b : Nat} (h : Live κ s b) : b < w.heap.size := by
  obtain ⟨d, i, o, ho, hb⟩ := h
  obtain ⟨ob, hh⟩ := (hs.obj d i o ho).block hb
  exact (Array.getElem?_eq_some_iff.1 hh).1

/-- An object lives on where its block and what is known of it stay. -/
theorem OR.keep {κ κ' : Kap} {d i : Nat} {w w' : World} {o : AObj} (h : OR κ d i w o) (hi : i < κ.n d) (hk : KLe κ κ' (d + 1)) (ht : ∀ m, κ'.tk d i m = κ.tk d i m) (hb : ∀ b, blockOf κ d i o = some b → w'.heap[b]? = w.heap[b]? ∧ ∀ x, κ'.F ⟨b, x, none⟩ = κ.F ⟨b, x, none⟩) :
    OR κ' d i w' o ∧ blockOf κ' d i o = blockOf κ d i o := by
  cases o with
  | cells cs =>
    obtain ⟨⟨C, e, fz, h1, h2, h3⟩, h4⟩ := h
    have hl := hk.loc d i (Nat.lt_succ_self d) hi
    obtain ⟨e1, e2⟩ := hb _ rfl
    refine ⟨⟨⟨C, e, fz, by rw [hl, e1, h1], h2, h3.mono hk⟩, fun o => by rw [hl, e2, h4]⟩, by simp [blockOf, hl]⟩
  | tok n =>
    obtain ⟨b, cap, sz, h1, h0, ⟨C, e, fz, h2, h3, h4⟩, h5, h6⟩ := h
    have hl := hk.tk d i n _ (Nat.lt_succ_self d) hi h1
    obtain ⟨e1, e2⟩ := hb b (by simp [blockOf, h1])
    exact ⟨⟨b, cap, sz, hl, h0, ⟨C, e, fz, by rw [e1, h2], h3, h4⟩, fun o ho => by rw [e2, h5 o ho], fun m hm => by rw [ht, h6 m hm]⟩, by simp [blockOf, h1, hl]⟩
  | map es =>
    obtain ⟨ents, clock, h1, h2⟩ := h
    have hl := hk.loc d i (Nat.lt_succ_self d) hi
    obtain ⟨e1, e2⟩ := hb _ rfl
    exact ⟨⟨ents, clock, by rw [hl, e1, h1], h2.mono hk⟩, by simp [blockOf, hl]⟩
  | gone => exact ⟨trivial, rfl⟩

theorem Sim.lt_n {κ : Kap} {s : St} {w : World} (hs : Sim κ s w) {d i : Nat} {o : AObj} (h : s.get (.g d i) = some o) : i < κ.n d := by
  rw [St.get_g] at h
  cases hl : s.fr d with
  | none => simp [hl] at h
  | some l => rw [hl] at h; rw [← hs.len d l hl]; exact (List.getElem?_eq_some_iff.1 h).1
theorem St.get_depth {s : St} {d i : Nat} {o : AObj} (h : s.get (.g d i) = some o) : d ≤ s.depth := by
  rcases Nat.lt_trichotomy d s.depth with h1 | h1 | h1
  · omega
  · omega
  · have h2 : d ≠ s.depth := by omega
    have h3 : ¬ d < s.depth := by omega
    simp [St.get, h2, h3] at h
theorem Sim.get_lt {κ : Kap} {s : St} {w : World} (hs : Sim κ s w) {d i : Nat} {o : AObj} (h : s.get (.g d i) = some o) : d < s.depth + 1 ∧ i < κ.n d := ⟨by have := St.get_depth h; omega, hs.lt_n h⟩

/-- The world changes, but no block that matters. -/
theorem Sim.world {κ κ' : Kap} {s : St} {w w' : World} (hs : Sim κ s w) (hk : KLe κ κ' (s.depth + 1)) (hn : κ'.n = κ.n) (ht : κ'.tk = κ.tk) (hF : ∀ a v, κ'.F a = some v → a.spot = none ∧ w'.cell? a = some v)
    (hb : ∀ b, Live κ s b → w'.heap[b]? = w.heap[b]? ∧ ∀ x, κ'.F ⟨b, x, none⟩ = κ.F ⟨b, x, none⟩) : Sim κ' s w' := by
  have key : ∀ d i o, s.get (.g d i) = some o → OR κ' d i w' o ∧ blockOf κ' d i o = blockOf κ d i o := fun d i o h =>
    (hs.obj d i o h).keep (hs.lt_n h) (hk.low (by have := St.get_depth h; omega)) (fun m => by rw [ht]) (fun b hb' => hb b ⟨d, i, o, h, hb'⟩)
  refine ⟨hF, fun d l h => by rw [hn]; exact hs.len d l h, fun d i o h => (key d i o h).1, fun d i o d' i' o' b h h' e e' => ?_⟩
  rw [(key d i o h).2] at e
  rw [(key d' i' o' h').2] at e'
  exact hs.inj d i o d' i' o' b h h' e e'

/-- Cells that are frozen from here on. -/
def Kap.freeze (κ : Kap) (b lo : Nat) (C : Array Value) : Kap :=
  { κ with F := fun a => if a.block = b ∧ a.spot = none ∧ lo ≤ a.off ∧ a.off < C.size then C[a.off]? else κ.F a }

theorem freeze_at {κ : Kap} {b lo j : Nat} {C : Array Value} (h : lo ≤ j) (hj : j < C.size) : (κ.freeze b lo C).F ⟨b, j, none⟩ = some C[j] := by
  simp [Kap.freeze, h, hj]

theorem KLe.freeze {κ : Kap} {b lo : Nat} {C : Array Value} (hb : ∀ j, lo ≤ j → κ.F ⟨b, j, none⟩ = none) (D : Nat) : KLe κ (κ.freeze b lo C) D := by
  refine ⟨fun a v h => ?_, fun _ _ => Nat.le_refl _, fun _ _ _ _ => rfl, fun _ _ _ _ _ _ h => h⟩
  simp only [Kap.freeze]
  split
  · rename_i hc
    have h1 := hb a.off hc.2.2.1
    have : a = ⟨b, a.off, none⟩ := by cases a; simp_all
    rw [this, h1] at h
    cases h
  · exact h

theorem Sim.F_new {κ : Kap} {s : St} {w : World} (hs : Sim κ s w) {a : Addr} (h : w.heap.size ≤ a.block) : κ.F a = none := by
  cases e : κ.F a with
  | none => rfl
  | some v => have := cell_lt (hs.froz a v e).2; omega

/-- A new block whose cells never change. -/
theorem Sim.allocFrozen {κ : Kap} {s : St} {w w' : World} (hs : Sim κ s w) (C : Array Value) (e : TypeId) (fz : Nat × Nat) (hw : w'.heap = w.heap.push (.cells C e fz)) (ho : w'.os = w.os) (ht : w'.tape = w.tape) (hu : w'.output = w.output) :
    Sim (κ.freeze w.heap.size 0 C) s w' ∧ Ext κ s w (κ.freeze w.heap.size 0 C) s w' := by
  have hold : ∀ b, b < w.heap.size → w'.heap[b]? = w.heap[b]? := fun b hb => by rw [hw, Array.getElem?_push]; simp [Nat.ne_of_lt hb]
  have hnew : w'.heap[w.heap.size]? = some (.cells C e fz) := by rw [hw]; simp
  have hk : ∀ D, KLe κ (κ.freeze w.heap.size 0 C) D := fun D => KLe.freeze (fun j _ => hs.F_new (Nat.le_refl _)) D
  refine ⟨hs.world (hk _) rfl rfl (fun a v h => ?_) (fun b hb => ⟨hold b (hs.live_lt hb), fun x => ?_⟩), ⟨hk _, rfl, by rw [hw]; simp, ho, ht, hu, fun b hb _ => hold b hb, fun b _ h => h, fun a h => ?_⟩⟩
  · simp only [Kap.freeze] at h
    split at h
    · rename_i hc
      refine ⟨hc.2.1, ?_⟩
      have ha : a = ⟨w.heap.size, a.off, none⟩ := by cases a; simp_all
      rw [ha, cell_of_heap hnew]
      exact h
    · obtain ⟨h1, h2⟩ := hs.froz a v h
      exact ⟨h1, by rw [cell_heap_eq (hold _ (cell_lt h2))]; exact h2⟩
  · have := hs.live_lt hb
    simp [Kap.freeze, Nat.ne_of_lt this]
  · simp only [Kap.freeze] at h
    split at h
    · rename_i hc; exact .inr (.inl (by omega))
    · exact .inl h

/-- The same world but for what has been drawn. -/
theorem Sim.same {κ : Kap} {s : St} {w w' : World} (hs : Sim κ s w) (hw : w'.heap = w.heap) (ho : w'.os = w.os) (ht : w'.tape = w.tape) (hu : w'.output = w.output) : Sim κ s w' ∧ Ext κ s w κ s w' := by
  refine ⟨hs.world (.refl _ _) rfl rfl (fun a v h => ?_) (fun b _ => ⟨by rw [hw], fun _ => rfl⟩), ⟨.refl _ _, rfl, by rw [hw]; exact Nat.le_refl _, ho, ht, hu, fun b _ _ => by rw [hw], fun _ _ h => h, fun _ h => .inl h⟩⟩
  obtain ⟨h1, h2⟩ := hs.froz a v h
  exact ⟨h1, by rw [cell_heap_eq (w := w) (by rw [hw])]; exact h2⟩

theorem St.new_depth (s : St) (o : AObj) : (s.new o).depth = s.depth := rfl
theorem St.get_new (s : St) (o : AObj) (d i : Nat) : (s.new o).get (.g d i) = if d = s.depth ∧ i = s.own.length then some o else s.get (.g d i) := by
  unfold St.get
  simp only [St.new_depth]
  by_cases hd : d = s.depth
  · simp only [hd, ↓reduceIte, St.new, true_and]
    by_cases hi : i = s.own.length
    · simp [hi]
    · rw [if_neg hi]
      by_cases hlt : i < s.own.length
      · rw [List.getElem?_append_left hlt]
      · rw [List.getElem?_eq_none (by simp; omega), List.getElem?_eq_none (by omega)]
  · simp only [hd, false_and, ↓reduceIte]
    rfl
theorem St.fr_new (s : St) (o : AObj) (d : Nat) : (s.new o).fr d = if d = s.depth then some (s.own ++ [o]) else s.fr d := by
  unfold St.fr
  simp only [St.new_depth]
  by_cases hd : d = s.depth
  · simp [hd, St.new]
  · simp only [hd, ↓reduceIte]
    rfl

/-- An object that is new in a frame. -/
structure NewAt (s s' : St) (d i : Nat) (o : AObj) : Prop where
  depth : s'.depth = s.depth
  le : d ≤ s.depth
  fr : ∀ d', s'.fr d' = if d' = d then (s.fr d').map (· ++ [o]) else s.fr d'
  here : ∃ l, s.fr d = some l ∧ l.length = i
theorem NewAt.new (s : St) (o : AObj) : NewAt s (s.new o) s.depth s.own.length o := by
  refine ⟨rfl, Nat.le_refl _, fun d' => ?_, s.own, by simp [St.fr], rfl⟩
  rw [St.fr_new]
  split
  · rename_i h; subst h; simp [St.fr]
  · rfl
theorem NewAt.get {s s' : St} {d i : Nat} {o : AObj} (h : NewAt s s' d i o) (d' i' : Nat) : s'.get (.g d' i') = if d' = d ∧ i' = i then some o else s.get (.g d' i') := by
  rw [St.get_g, St.get_g, h.fr]
  obtain ⟨l, h1, h2⟩ := h.here
  by_cases hd : d' = d
  · subst hd
    simp only [↓reduceIte, h1, Option.map_some, Option.bind_some, true_and]
    by_cases hi : i' = i
    · subst hi; simp [h2]
    · rw [if_neg hi]
      by_cases hlt : i' < l.length
      · rw [List.getElem?_append_left hlt]
      · rw [List.getElem?_eq_none (by simp; omega), List.getElem?_eq_none (by omega)]
  · simp [hd]
theorem NewAt.by {s s' : St} {a l : Loc} {o : AObj} (h : s.newBy a o = some (l, s')) : ∃ d i, l.pub s.depth = .g d i ∧ NewAt s s' d i o := by
  cases a with
  | l j =>
    simp only [St.newBy, Option.some.injEq, Prod.mk.injEq] at h
    obtain ⟨rfl, rfl⟩ := h
    exact ⟨_, _, rfl, NewAt.new s o⟩
  | g d j =>
    simp only [St.newBy] at h
    split at h
    · simp only [Option.some.injEq, Prod.mk.injEq] at h
      obtain ⟨rfl, rfl⟩ := h
      exact ⟨_, _, rfl, NewAt.new s o⟩
    · rename_i hne
      split at h
      · rename_i hc
        cases hl : s.up[s.depth - 1 - d]? with
        | none => rw [hl] at h; cases h
        | some fl =>
          rw [hl] at h
          simp only [Option.some.injEq, Prod.mk.injEq] at h
          obtain ⟨rfl, rfl⟩ := h
          have hlen : s.depth = s.up.length + s.ro.length := rfl
          have hin : s.depth - 1 - d < s.up.length := by omega
          have hfd : s.fr d = some fl := by
            simp only [St.fr, hne, ↓reduceIte, hc.1]
            rw [List.getElem?_append_left hin, hl]
          have hdep : ({ s with up := s.up.modify (s.depth - 1 - d) (· ++ [o]) } : St).depth = s.depth := by simp [St.depth]
          refine ⟨d, fl.length, rfl, hdep, by omega, fun d' => ?_, fl, hfd, rfl⟩
          unfold St.fr
          rw [hdep]
          by_cases h1 : d' = s.depth
          · have : ¬ s.depth = d := fun e => hne e.symm
            simp [h1, this]
          · by_cases h3 : d' < s.depth
            · simp only [h1, ↓reduceIte, h3]
              by_cases h4 : d' = d
              · subst h4
                simp only [↓reduceIte]
                rw [List.getElem?_append_left (by simpa using hin), List.getElem?_append_left hin, List.getElem?_modify]
                simp
              · simp only [h4, ↓reduceIte]
                by_cases h5 : s.depth - 1 - d' < s.up.length
                · rw [List.getElem?_append_left (by simpa using h5), List.getElem?_append_left h5, List.getElem?_modify]
                  have hq : ¬ s.depth - 1 - d = s.depth - 1 - d' := by omega
                  simp [hq]
                · rw [List.getElem?_append_right (by simpa using h5), List.getElem?_append_right (by omega)]
                  simp
            · have : ¬ d' = d := by omega
              simp [h1, h3, this]
      · cases h

/-- A new object: its place is the frame's next one. -/
theorem Sim.newObj {κ κ' : Kap} {s : St} {w w' : World} (hs : Sim κ s w) (o : AObj) (hk : KLe κ κ' (s.depth + 1)) {s' : St} {dd ii : Nat} (hnew : NewAt s s' dd ii o) (hn : ∀ d, κ'.n d = if d = dd then κ.n d + 1 else κ.n d) (htk : ∀ d i m, i < κ.n d → κ'.tk d i m = κ.tk d i m)
    (hF : κ'.F = κ.F ∨ ∃ lo C, (κ'.F = (κ.freeze w.heap.size lo C).F) ∧ ∃ C' e fz, w'.heap[w.heap.size]? = some (.cells C' e fz) ∧ ∀ (j : Nat) (x : Value), C[j]? = some x → C'[j]? = some x) (hold : ∀ b, b < w.heap.size → w'.heap[b]? = w.heap[b]?) (hsz : w.heap.size ≤ w'.heap.size) (ho : w'.os = w.os) (ht : w'.tape = w.tape) (hu : w'.output = w.output)
    (hor : OR κ' dd ii w' o) (hb : ∀ b, blockOf κ' dd ii o = some b → w.heap.size ≤ b) : Sim κ' s' w' ∧ Ext κ s w κ' s' w' := by
  have hFF : ∀ b x, b < w.heap.size → κ'.F ⟨b, x, none⟩ = κ.F ⟨b, x, none⟩ := by
    intro b x hb
    rcases hF with hF | ⟨lo, C, hF, _⟩
    · rw [hF]
    · rw [hF]; simp [Kap.freeze, Nat.ne_of_lt hb]
  have key : ∀ d i o, s.get (.g d i) = some o → OR κ' d i w' o ∧ blockOf κ' d i o = blockOf κ d i o := fun d i o h =>
    (hs.obj d i o h).keep (hs.lt_n h) (hk.low (by have := St.get_depth h; omega)) (fun m => htk d i m (hs.lt_n h)) (fun b hb' => by
      have hlt := hs.live_lt ⟨d, i, o, h, hb'⟩
      exact ⟨hold b hlt, fun x => hFF b x hlt⟩)
  refine ⟨⟨fun a v h => ?_, fun d l h => ?_, fun d i o' h => ?_, fun d i o₁ d' i' o₂ b h h' e e' => ?_⟩, ⟨hk, hnew.depth, hsz, ho, ht, hu, fun b hb _ => hold b hb, fun b hb' hl => ?_, fun a ha => ?_⟩⟩
  · rcases hF with hF | ⟨lo, C, hF, C', e, fz, hC, hCC⟩
    · rw [hF] at h
      obtain ⟨h1, h2⟩ := hs.froz a v h
      exact ⟨h1, by rw [cell_heap_eq (hold _ (cell_lt h2))]; exact h2⟩
    · rw [hF] at h
      simp only [Kap.freeze] at h
      split at h
      · rename_i hc
        refine ⟨hc.2.1, ?_⟩
        have ha : a = ⟨w.heap.size, a.off, none⟩ := by cases a; simp_all
        rw [ha, cell_of_heap hC]
        exact hCC _ _ h
      · obtain ⟨h1, h2⟩ := hs.froz a v h
        exact ⟨h1, by rw [cell_heap_eq (hold _ (cell_lt h2))]; exact h2⟩
  · rw [hnew.fr] at h
    rw [hn]
    split at h
    · rename_i hd
      cases hf : s.fr d with
      | none => rw [hf] at h; cases h
      | some l' =>
        rw [hf] at h
        simp only [Option.map_some, Option.some.injEq] at h
        rw [← h, if_pos hd, ← hs.len d l' hf]
        simp
    · rename_i hd
      rw [if_neg hd]
      exact hs.len d l h
  · rw [hnew.get] at h
    split at h
    · rename_i hc
      obtain ⟨rfl, rfl⟩ := hc
      simp only [Option.some.injEq] at h
      exact h ▸ hor
    · exact (key d i o' h).1
  · rw [hnew.get] at h h'
    split at h
    · rename_i hc
      obtain ⟨rfl, rfl⟩ := hc
      simp only [Option.some.injEq] at h
      subst h
      split at h'
      · rename_i hc'
        exact ⟨hc'.1.symm, hc'.2.symm⟩
      · rw [(key d' i' o₂ h').2] at e'
        have := hs.live_lt ⟨d', i', o₂, h', e'⟩
        have := hb b e
        omega
    · split at h'
      · rename_i hc'
        obtain ⟨rfl, rfl⟩ := hc'
        simp only [Option.some.injEq] at h'
        subst h'
        rw [(key d i o₁ h).2] at e
        have := hs.live_lt ⟨d, i, o₁, h, e⟩
        have := hb b e'
        omega
      · rw [(key d i o₁ h).2] at e
        rw [(key d' i' o₂ h').2] at e'
        exact hs.inj d i o₁ d' i' o₂ b h h' e e'
  · obtain ⟨d, i, o', hg, hbl⟩ := hl
    rw [hnew.get] at hg
    split at hg
    · rename_i hc
      obtain ⟨rfl, rfl⟩ := hc
      simp only [Option.some.injEq] at hg
      subst hg
      have := hb b hbl
      omega
    · rw [(key d i o' hg).2] at hbl
      exact ⟨d, i, o', hg, hbl⟩
  · by_cases hlt : a.block < w.heap.size
    · left
      rcases hF with hF | ⟨lo, C, hF, _⟩
      · rwa [hF] at ha
      · rw [hF] at ha
        simpa [Kap.freeze, Nat.ne_of_lt hlt] using ha
    · exact .inr (.inl (by omega))

/-- A new variable. -/
theorem Sim.allocCells {κ : Kap} {s : St} {w w' : World} (hs : Sim κ s w) (cs : List AV) (C : Array Value) (e : TypeId) (hc : VRs κ (s.depth + 1) cs C.toList) (hw : w'.heap = w.heap.push (.cells C e (0, 0))) (ho : w'.os = w.os) (ht : w'.tape = w.tape) (hu : w'.output = w.output) :
    ∃ κ', Sim κ' (s.new (.cells cs)) w' ∧ Ext κ s w κ' (s.new (.cells cs)) w' ∧ κ'.loc s.depth s.own.length = w.heap.size ∧ s.own.length < κ'.n s.depth := by
  have hown : s.own.length = κ.n s.depth := hs.len s.depth s.own (by simp [St.fr])
  let κ' : Kap := { κ with n := fun d => if d = s.depth then κ.n d + 1 else κ.n d, loc := fun d i => if d = s.depth ∧ i = s.own.length then w.heap.size else κ.loc d i }
  have hk : KLe κ κ' (s.depth + 1) := by
    refine ⟨fun _ _ h => h, fun d _ => ?_, fun d i _ hi => ?_, fun _ _ _ _ _ _ h => h⟩
    · simp only [κ']; split <;> omega
    · simp only [κ']
      rw [if_neg]
      rintro ⟨rfl, rfl⟩
      omega
  have hnew : w'.heap[w.heap.size]? = some (.cells C e (0, 0)) := by rw [hw]; simp
  refine ⟨κ', ?_⟩
  have := hs.newObj (κ' := κ') (w' := w') (.cells cs) hk (NewAt.new s _) (fun d => rfl) (fun _ _ _ _ => rfl) (.inl rfl) (fun b hb => by rw [hw, Array.getElem?_push]; simp [Nat.ne_of_lt hb]) (by rw [hw]; simp) ho ht hu
    ⟨⟨C, e, (0, 0), by simp [κ', hnew], fun j _ => by simp, hc.mono hk⟩, fun o => hs.F_new (by simp [κ'])⟩ (fun b hb => by simp [blockOf, κ'] at hb; omega)
  exact ⟨this.1, this.2, by simp [κ'], by simp [κ', hown]⟩
end Go.Ab
