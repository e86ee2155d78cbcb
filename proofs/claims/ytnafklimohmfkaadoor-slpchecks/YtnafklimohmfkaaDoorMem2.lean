/- The moves of the machine's memory, continued: an object turns, a frame comes and goes. -/
import Derived.Test.YtnafklimohmfkaaDoorMem
namespace Go.Ab

theorem St.set_pub (s : St) (a : Loc) (o : AObj) : s.set (a.pub s.depth) o = s.set a o := by
  cases a with
  | l i => simp [Loc.pub, St.set]
  | g d i => rfl

theorem modify_get (l : List (List AObj)) (n i : Nat) (o : AObj) (m : Nat) : (l.modify n (·.set i o))[m]? = if m = n then (l[m]?).map (·.set i o) else l[m]? := by
  rw [List.getElem?_modify]
  by_cases h : m = n
  · simp [h]
  · simp [h, Ne.symm h]

theorem St.set_facts {s s' : St} {d i : Nat} {o : AObj} (h : s.set (.g d i) o = some s') : s'.depth = s.depth ∧ ∀ d', s'.fr d' = if d' = d then (s.fr d').map (·.set i o) else s.fr d' := by
  by_cases hd : d = s.depth
  · simp only [St.set, hd, ↓reduceIte, Option.some.injEq] at h
    subst h
    refine ⟨rfl, fun d' => ?_⟩
    by_cases h1 : d' = s.depth
    · simp [St.fr, St.depth, h1, hd]
    · have h1' : ¬ d' = s.up.length + s.ro.length := h1
      simp only [St.fr, St.depth, h1', hd, ↓reduceIte]
      rfl
  · by_cases h2 : d < s.depth ∧ s.ro.length ≤ d
    · simp only [St.set, hd, ↓reduceIte, h2, and_self, Option.some.injEq] at h
      subst h
      have hdep : ({ s with up := s.up.modify (s.depth - 1 - d) (·.set i o) } : St).depth = s.depth := by simp [St.depth]
      refine ⟨hdep, fun d' => ?_⟩
      unfold St.fr
      rw [hdep]
      by_cases h1 : d' = s.depth
      · have : ¬ s.depth = d := fun e => hd e.symm
        simp [h1, this]
      · by_cases h3 : d' < s.depth
        · have hlen : s.depth = s.up.length + s.ro.length := rfl
          have hin : s.depth - 1 - d < s.up.length := by omega
          simp only [h1, ↓reduceIte, h3]
          by_cases h4 : d' = d
          · subst h4
            simp only [↓reduceIte]
            rw [List.getElem?_append_left (by simpa using hin), List.getElem?_append_left hin, modify_get]
            simp
          · simp only [h4, ↓reduceIte]
            by_cases h5 : s.depth - 1 - d' < s.up.length
            · rw [List.getElem?_append_left (by simpa using h5), List.getElem?_append_left h5, modify_get, if_neg (by omega)]
            · rw [List.getElem?_append_right (by simpa using h5), List.getElem?_append_right (by omega)]
              simp
        · by_cases h4 : d' = d
          · exact absurd (h4 ▸ h2.1) h3
          · simp [h1, h3, h4]
    · have h3 : ¬ (d < s.depth ∧ s.ro.length ≤ d) := h2
      simp [St.set, hd, h3] at h

theorem St.set_get {s s' : St} {d i : Nat} {o o₀ : AObj} (h : s.set (.g d i) o = some s') (hg : s.get (.g d i) = some o₀) (d' i' : Nat) : s'.get (.g d' i') = if d' = d ∧ i' = i then some o else s.get (.g d' i') := by
  rw [St.get_g, (St.set_facts h).2 d', St.get_g]
  by_cases hd : d' = d
  · subst hd
    rw [St.get_g] at hg
    cases hf : s.fr d' with
    | none => simp [hf] at hg
    | some l =>
      rw [hf] at hg
      simp only [Option.bind_some] at hg
      have hi : i < l.length := (List.getElem?_eq_some_iff.1 hg).1
      simp only [↓reduceIte, Option.map_some, Option.bind_some, true_and]
      by_cases hii : i' = i
      · subst hii; simp [hi]
      · rw [if_neg hii, List.getElem?_set_ne (fun e => hii e.symm)]
  · simp [hd]

/-- An object turns into another one. -/
theorem Sim.setObj {κ κ' : Kap} {s s' : St} {w w' : World} (hs : Sim κ s w) {d i : Nat} {o o' : AObj} (hg : s.get (.g d i) = some o) (hset : s.set (.g d i) o' = some s') (hk : KLe κ κ' (s.depth + 1)) (hn : κ'.n = κ.n)
    (htk : ∀ d' i' m, ¬ (d' = d ∧ i' = i) → κ'.tk d' i' m = κ.tk d' i' m) (hF : ∀ a v, κ'.F a = some v → a.spot = none ∧ w'.cell? a = some v)
    (hold : ∀ b, b < w.heap.size → blockOf κ d i o ≠ some b → w'.heap[b]? = w.heap[b]? ∧ ∀ x, κ'.F ⟨b, x, none⟩ = κ.F ⟨b, x, none⟩)
    (hsz : w.heap.size ≤ w'.heap.size) (ho : w'.os = w.os) (ht : w'.tape = w.tape) (hu : w'.output = w.output)
    (hor : OR κ' d i w' o') (hb : ∀ b, blockOf κ' d i o' = some b → blockOf κ d i o = some b ∨ w.heap.size ≤ b) : Sim κ' s' w' ∧ Ext κ s w κ' s' w' := by
  have hget := St.set_get hset hg
  obtain ⟨hdep, hfr⟩ := St.set_facts hset
  have key : ∀ d₁ i₁ o₁, ¬ (d₁ = d ∧ i₁ = i) → s.get (.g d₁ i₁) = some o₁ → OR κ' d₁ i₁ w' o₁ ∧ blockOf κ' d₁ i₁ o₁ = blockOf κ d₁ i₁ o₁ := fun d₁ i₁ o₁ hne h =>
    (hs.obj d₁ i₁ o₁ h).keep (hs.lt_n h) (hk.low (by have := St.get_depth h; omega)) (fun m => htk d₁ i₁ m hne) (fun b hb' => by
      have hlt := hs.live_lt ⟨d₁, i₁, o₁, h, hb'⟩
      exact hold b hlt (fun e => hne (hs.inj d₁ i₁ o₁ d i o b h hg hb' e)))
  refine ⟨⟨hF, fun d₁ l h => ?_, fun d₁ i₁ o₁ h => ?_, fun d₁ i₁ o₁ d₂ i₂ o₂ b h h' e e' => ?_⟩, ⟨hk, hdep, hsz, ho, ht, hu, fun b hb hl => (hold b hb (fun e => hl ⟨d, i, o, hg, e⟩)).1, fun b hb' hl => ?_, fun a ha => ?_⟩⟩
  · rw [hfr] at h
    rw [hn]
    split at h
    · cases hf : s.fr d₁ with
      | none => simp [hf] at h
      | some l' => rw [hf] at h; simp only [Option.map_some, Option.some.injEq] at h; rw [← h]; simpa using hs.len d₁ l' hf
    · exact hs.len d₁ l h
  · rw [hget] at h
    split at h
    · rename_i hc
      obtain ⟨rfl, rfl⟩ := hc
      simp only [Option.some.injEq] at h
      exact h ▸ hor
    · rename_i hc
      exact (key d₁ i₁ o₁ hc h).1
  · rw [hget] at h h'
    split at h
    · rename_i hc
      obtain ⟨rfl, rfl⟩ := hc
      simp only [Option.some.injEq] at h
      subst h
      split at h'
      · rename_i hc'; exact ⟨hc'.1.symm, hc'.2.symm⟩
      · rename_i hc'
        rw [(key d₂ i₂ o₂ hc' h').2] at e'
        rcases hb b e with h1 | h1
        · obtain ⟨h2, h3⟩ := hs.inj d₂ i₂ o₂ _ _ o b h' hg e' h1; exact absurd ⟨h2, h3⟩ hc'
        · have := hs.live_lt ⟨d₂, i₂, o₂, h', e'⟩; omega
    · rename_i hc
      rw [(key d₁ i₁ o₁ hc h).2] at e
      split at h'
      · rename_i hc'
        obtain ⟨rfl, rfl⟩ := hc'
        simp only [Option.some.injEq] at h'
        subst h'
        rcases hb b e' with h1 | h1
        · obtain ⟨h2, h3⟩ := hs.inj d₁ i₁ o₁ _ _ o b h hg e h1; exact absurd ⟨h2, h3⟩ hc
        · have := hs.live_lt ⟨d₁, i₁, o₁, h, e⟩; omega
      · rename_i hc'
        rw [(key d₂ i₂ o₂ hc' h').2] at e'
        exact hs.inj d₁ i₁ o₁ d₂ i₂ o₂ b h h' e e'
  · obtain ⟨d₁, i₁, o₁, h, hbl⟩ := hl
    rw [hget] at h
    split at h
    · rename_i hc
      obtain ⟨rfl, rfl⟩ := hc
      simp only [Option.some.injEq] at h
      subst h
      rcases hb b hbl with h1 | h1
      · exact ⟨_, _, o, hg, h1⟩
      · omega
    · rename_i hc
      rw [(key d₁ i₁ o₁ hc h).2] at hbl
      exact ⟨d₁, i₁, o₁, h, hbl⟩
  · by_cases hlt : a.block < w.heap.size
    · by_cases hbo : blockOf κ d i o = some a.block
      · exact .inr (.inr ⟨d, i, o, hg, hbo⟩)
      · left
        cases hx : κ'.F a with
        | none => exact absurd hx ha
        | some v =>
          have hsp := (hF a v hx).1
          have h1 := (hold a.block hlt hbo).2 a.off
          have haa : a = ⟨a.block, a.off, none⟩ := by cases a; simp_all
          rw [haa, ← h1, ← haa]
          exact ha
    · exact .inr (.inl (by omega))

/-- A store into an object's cells. -/
theorem Sim.store {κ : Kap} {s s' : St} {w : World} (hs : Sim κ s w) {d i off : Nat} {cs vs : List AV} {xs : List Value} (hg : s.get (.g d i) = some (.cells cs)) (hset : s.set (.g d i) (.cells (splice cs off vs)) = some s')
    (hv : VRs κ (d + 1) vs xs) (ho : off + vs.length ≤ cs.length) : Sim κ s' (w.setCells (κ.loc d i) off xs) ∧ Ext κ s w κ s' (w.setCells (κ.loc d i) off xs) := by
  obtain ⟨⟨C, e, fz, h1, h2, h3⟩, h4⟩ := hs.obj d i _ hg
  have hxl : xs.length = vs.length := hv.1
  have hCl : C.size = cs.length := by simpa using h3.1
  have hheap := setCells_heap xs w (κ.loc d i) off C e fz h1 (by omega)
  obtain ⟨r1, r2, r3⟩ := setCells_rest xs w (κ.loc d i) off
  refine hs.setObj hg hset (.refl _ _) rfl (fun _ _ _ _ => rfl) (fun a v h => ?_) (fun b _ hb => ⟨?_, fun _ => rfl⟩) (by rw [setCells_size]; exact Nat.le_refl _) r1 r2 r3 ⟨⟨(splice C.toList off xs).toArray, e, fz, by rw [hheap]; simp, by simpa [splice_length] using h2, by simpa using h3.splice hv ho⟩, h4⟩ (fun b hb => .inl hb)
  · obtain ⟨h5, h6⟩ := hs.froz a v h
    refine ⟨h5, ?_⟩
    rw [cell_heap_eq (w := w) ?_]
    · exact h6
    · rw [hheap, if_neg]
      intro e1
      have haa : a = ⟨κ.loc d i, a.off, none⟩ := by cases a; simp_all
      rw [haa, h4] at h
      cases h
  · rw [hheap, if_neg (fun e1 => hb (by simp [blockOf, e1]))]

/-- An object whose cells are frozen is gone. -/
theorem Sim.freezeObj {κ : Kap} {s s' : St} {w : World} (hs : Sim κ s w) {d i : Nat} {cs : List AV} (hg : s.get (.g d i) = some (.cells cs)) (hset : s.set (.g d i) .gone = some s') :
    ∃ C e fz, w.heap[κ.loc d i]? = some (.cells C e fz) ∧ VRs κ (d + 1) cs C.toList ∧ Sim (κ.freeze (κ.loc d i) 0 C) s' w ∧ Ext κ s w (κ.freeze (κ.loc d i) 0 C) s' w := by
  obtain ⟨⟨C, e, fz, h1, h2, h3⟩, h4⟩ := hs.obj d i _ hg
  refine ⟨C, e, fz, h1, h3, ?_⟩
  refine hs.setObj hg hset (KLe.freeze (fun j _ => h4 j) _) rfl (fun _ _ _ _ => rfl) (fun a v h => ?_) (fun b _ hb => ⟨rfl, fun x => ?_⟩) (Nat.le_refl _) rfl rfl rfl trivial (fun b hb => by simp [blockOf] at hb)
  · simp only [Kap.freeze] at h
    split at h
    · rename_i hc
      refine ⟨hc.2.1, ?_⟩
      have ha : a = ⟨κ.loc d i, a.off, none⟩ := by cases a; simp_all
      rw [ha, cell_of_heap h1]
      exact h
    · exact hs.froz a v h
  · simp only [blockOf, ne_eq, Option.some.injEq] at hb
    simp [Kap.freeze, Ne.symm hb]

/-! ### Maps -/
/-- A new map. -/
theorem Sim.newMap {κ : Kap} {s s' : St} {w w' : World} (hs : Sim κ s w) {dd ii : Nat} (hnw : NewAt s s' dd ii (.map [])) (hw : w'.heap = w.heap.push (.map #[] 0)) (ho : w'.os = w.os) (ht : w'.tape = w.tape) (hu : w'.output = w.output) :
    ∃ κ', Sim κ' s' w' ∧ Ext κ s w κ' s' w' ∧ κ'.loc dd ii = w.heap.size ∧ ii < κ'.n dd := by
  have hown : ii = κ.n dd := by obtain ⟨l, h1, h2⟩ := hnw.here; rw [← h2]; exact hs.len dd l h1
  let κ' : Kap := { κ with n := fun d => if d = dd then κ.n d + 1 else κ.n d, loc := fun d i => if d = dd ∧ i = ii then w.heap.size else κ.loc d i }
  have hk : KLe κ κ' (s.depth + 1) := by
    refine ⟨fun _ _ h => h, fun d _ => ?_, fun d i _ hi => ?_, fun _ _ _ _ _ _ h => h⟩
    · simp only [κ']; split <;> omega
    · simp only [κ']
      rw [if_neg]
      rintro ⟨rfl, rfl⟩
      omega
  have hnew : w'.heap[w.heap.size]? = some (.map #[] 0) := by rw [hw]; simp
  refine ⟨κ', ?_⟩
  have := hs.newObj (κ' := κ') (w' := w') (.map []) hk hnw (fun d => rfl) (fun _ _ _ _ => rfl) (.inl rfl) (fun b hb => by rw [hw, Array.getElem?_push]; simp [Nat.ne_of_lt hb]) (by rw [hw]; simp) ho ht hu
    ⟨#[], 0, by simp [κ', hnew], rfl, fun j p e hp => by simp at hp⟩ (fun b hb => by simp [blockOf, κ'] at hb; omega)
  exact ⟨this.1, this.2, by simp [κ'], by simp [κ', hown]⟩
/-- A map's entries turn. -/
theorem Sim.setMap {κ : Kap} {s s' : St} {w : World} (hs : Sim κ s w) {d i : Nat} {es es' : List (AV × AV)} {ents : Array MapEntry} {clock : Nat} (hg : s.get (.g d i) = some (.map es)) (hset : s.set (.g d i) (.map es') = some s') (hm : MapR κ (d + 1) es' ents.toList) :
    Sim κ s' { w with heap := w.heap.setIfInBounds (κ.loc d i) (.map ents clock) } ∧ Ext κ s w κ s' { w with heap := w.heap.setIfInBounds (κ.loc d i) (.map ents clock) } := by
  obtain ⟨ents0, clock0, h1, h2⟩ := hs.obj d i _ hg
  have hlt : κ.loc d i < w.heap.size := (Array.getElem?_eq_some_iff.1 h1).1
  have hheap : ∀ b, (w.heap.setIfInBounds (κ.loc d i) (.map ents clock))[b]? = if b = κ.loc d i then some (.map ents clock) else w.heap[b]? := by
    intro b
    rw [Array.getElem?_setIfInBounds]
    by_cases hb : κ.loc d i = b
    · subst hb; simp [hlt]
    · have : ¬ b = κ.loc d i := fun e => hb e.symm
      simp [hb, this]
  refine hs.setObj (w' := { w with heap := w.heap.setIfInBounds (κ.loc d i) (.map ents clock) }) hg hset (.refl _ _) rfl (fun _ _ _ _ => rfl) (fun a v h => ?_) (fun b _ hb => ⟨?_, fun _ => rfl⟩) (by simp) rfl rfl rfl ⟨ents, clock, by simp [hheap], hm⟩ (fun b hb => .inl hb)
  · obtain ⟨h5, h6⟩ := hs.froz a v h
    refine ⟨h5, ?_⟩
    rw [cell_heap_eq (w := w) ?_]
    · exact h6
    · show (w.heap.setIfInBounds _ _)[_]? = _
      rw [hheap, if_neg]
      intro e1
      have : w.cell? a = none := by simp [World.cell?, e1, h1]
      rw [this] at h6
      cases h6
  · show (w.heap.setIfInBounds _ _)[_]? = _
    rw [hheap, if_neg (fun e1 => hb (by simp [blockOf, e1]))]

/-! ### Growing slices -/
/-- A token: n elements of sz cells lie in a new block of so many places. -/
theorem Sim.newTok {κ : Kap} {s : St} {w w' : World} (hs : Sim κ s w) {s' : St} {dd ii : Nat} (C : Array Value) (e : TypeId) (n sz cap : Nat) (hnw : NewAt s s' dd ii (.tok n)) (hC : C.size = cap * sz) (hn : n ≤ cap) (hw : w'.heap = w.heap.push (.cells C e (0, 0))) (ho : w'.os = w.os) (ht : w'.tape = w.tape) (hu : w'.output = w.output) :
    ∃ κ', Sim κ' s' w' ∧ Ext κ s w κ' s' w' ∧ ii < κ'.n dd ∧ κ'.tk dd ii n = some (⟨w.heap.size, 0, none⟩, cap, sz) ∧ ∀ j, j < n * sz → κ'.F ⟨w.heap.size, j, none⟩ = C[j]? := by
  have hown : ii = κ.n dd := by obtain ⟨l, h1, h2⟩ := hnw.here; rw [← h2]; exact hs.len dd l h1
  have hle : n * sz ≤ C.size := by rw [hC]; exact Nat.mul_le_mul_right _ hn
  have hEl : ((C.toList.take (n * sz)).toArray).size = n * sz := by simp; omega
  let κ' : Kap := { (κ.freeze w.heap.size 0 (C.toList.take (n * sz)).toArray) with n := fun d => if d = dd then κ.n d + 1 else κ.n d, tk := fun d i m => if d = dd ∧ i = ii then (if m = n then some (⟨w.heap.size, 0, none⟩, cap, sz) else none) else κ.tk d i m }
  have hk : KLe κ κ' (s.depth + 1) := by
    refine ⟨fun a v h => ?_, fun d _ => ?_, fun _ _ _ _ => rfl, fun d i m x _ hi h => ?_⟩
    · exact (KLe.freeze (fun j _ => hs.F_new (Nat.le_refl _)) (s.depth + 1)).F a v h
    · simp only [κ']; split <;> omega
    · simp only [κ']
      rw [if_neg]
      · exact h
      · rintro ⟨rfl, rfl⟩; omega
  have hnew : w'.heap[w.heap.size]? = some (.cells C e (0, 0)) := by rw [hw]; simp
  have hFC : ∀ j, j < n * sz → κ'.F ⟨w.heap.size, j, none⟩ = C[j]? := by
    intro j hj
    simp only [κ', Kap.freeze]
    rw [if_pos (⟨trivial, trivial, Nat.zero_le _, by rw [hEl]; exact hj⟩ : True ∧ True ∧ 0 ≤ j ∧ j < ((C.toList.take (n * sz)).toArray).size)]
    simp [hj]
  have hold : ∀ b, b < w.heap.size → w'.heap[b]? = w.heap[b]? := fun b hb => by rw [hw, Array.getElem?_push]; simp [Nat.ne_of_lt hb]
  refine ⟨κ', ?_⟩
  have main := hs.newObj (κ' := κ') (w' := w') (.tok n) hk hnw (fun d => rfl) (fun d i m hi => ?_) ?hF hold (by rw [hw]; simp) ho ht hu
    ⟨w.heap.size, cap, sz, by simp [κ'], hn, ⟨C, e, (0, 0), hnew, hC, fun j _ => by simp⟩, fun o h1 => ?_, fun m hm => ?_⟩ (fun b hb => ?_)
  case hF => exact .inr ⟨0, (C.toList.take (n * sz)).toArray, rfl, C, e, (0, 0), hnew, fun j x hx => by
    rw [List.getElem?_toArray, List.getElem?_take] at hx
    split at hx
    · simpa using hx
    · cases hx⟩
  · exact ⟨main.1, main.2, by simp [κ', hown], by simp [κ'], hFC⟩
  · simp only [κ']
    rw [if_neg]
    rintro ⟨rfl, rfl⟩
    omega
  · simp only [κ', Kap.freeze]
    rw [if_neg (by intro h; have := h.2.2.2; rw [hEl] at this; omega)]
    exact hs.F_new (Nat.le_refl _)
  · simp only [κ']
    rw [if_pos (by simp), if_neg (by omega)]
  · simp [blockOf, κ'] at hb
    omega
/-- The token's elements grow in their block. -/
theorem Sim.growTok {κ : Kap} {s s' : St} {w : World} (hs : Sim κ s w) {d i n m b cap sz : Nat} (hg : s.get (.g d i) = some (.tok n)) (htk : κ.tk d i n = some (⟨b, 0, none⟩, cap, sz)) (hset : s.set (.g d i) (.tok m) = some s')
    (hnm : n < m) (hm : m ≤ cap) (xs : List Value) (hx : xs.length = (m - n) * sz) :
    ∃ κ', Sim κ' s' (w.setCells b (n * sz) xs) ∧ Ext κ s w κ' s' (w.setCells b (n * sz) xs) ∧ κ'.tk d i m = some (⟨b, 0, none⟩, cap, sz) ∧ ∀ j x, xs[j]? = some x → κ'.F ⟨b, n * sz + j, none⟩ = some x := by
  obtain ⟨b', cap', sz', h1, h0, ⟨C, e, fz, h2, h3, h4⟩, h5, h6⟩ := hs.obj d i _ hg
  rw [htk] at h1
  simp only [Option.some.injEq, Prod.mk.injEq, Addr.mk.injEq, and_true] at h1
  obtain ⟨rfl, rfl, rfl⟩ := h1
  obtain ⟨hdd, hii⟩ := hs.get_lt hg
  have hmul : n * sz + (m - n) * sz = m * sz := by rw [← Nat.add_mul]; congr 1; omega
  have hle : m * sz ≤ C.size := by rw [h3]; exact Nat.mul_le_mul_right _ hm
  have hheap := setCells_heap xs w b (n * sz) C e fz h2 (by omega)
  obtain ⟨r1, r2, r3⟩ := setCells_rest xs w b (n * sz)
  -- the frozen cells: those before, and the new ones
  let E : Array Value := ((splice C.toList (n * sz) xs).take (m * sz)).toArray
  have hE : E.size = m * sz := by simp [E, splice_length]; omega
  have hEx : ∀ j, n * sz ≤ j → j < m * sz → E[j]? = xs[j - n * sz]? := by
    intro j hj hj'
    simp only [E, List.getElem?_toArray, List.getElem?_take, hj', ↓reduceIte]
    rw [splice_get _ _ _ (by simp; omega), if_pos ⟨hj, by omega⟩]
  let κ' : Kap := { (κ.freeze b (n * sz) E) with tk := fun d' i' m' => if d' = d ∧ i' = i ∧ m' = m then some (⟨b, 0, none⟩, cap, sz) else κ.tk d' i' m' }
  have hk : KLe κ κ' (s.depth + 1) := by
    refine ⟨fun a v h => (KLe.freeze (fun j hj => h5 j hj) (s.depth + 1)).F a v h, fun _ _ => Nat.le_refl _, fun _ _ _ _ => rfl, fun d' i' m' x _ _ h => ?_⟩
    simp only [κ']
    split
    · rename_i hc
      obtain ⟨rfl, rfl, rfl⟩ := hc
      rw [h6 _ hnm] at h
      cases h
    · exact h
  have hF : ∀ a v, κ'.F a = some v → a.spot = none ∧ (w.setCells b (n * sz) xs).cell? a = some v := by
    intro a v h
    simp only [κ', Kap.freeze] at h
    split at h
    · rename_i hc
      obtain ⟨c1, c2, c3, c4⟩ := hc
      rw [hE] at c4
      refine ⟨c2, ?_⟩
      have ha : a = ⟨b, a.off, none⟩ := by cases a; simp_all
      rw [ha, cell_of_heap (by rw [hheap, if_pos rfl])]
      rw [hEx _ c3 c4] at h
      rw [List.getElem?_toArray, splice_get _ _ _ (by simp; omega), if_pos ⟨c3, by omega⟩]
      exact h
    · obtain ⟨q1, q2⟩ := hs.froz a v h
      refine ⟨q1, ?_⟩
      by_cases hb : a.block = b
      · have ha : a = ⟨b, a.off, none⟩ := by cases a; simp_all
        have hlt : a.off < n * sz := by
          rcases Nat.lt_or_ge a.off (n * sz) with q | q
          · exact q
          · rw [ha, h5 _ q] at h; cases h
        rw [ha, cell_of_heap h2] at q2
        rw [ha, cell_of_heap (by rw [hheap, if_pos rfl]), List.getElem?_toArray, splice_get _ _ _ (by simp; omega), if_neg (by omega)]
        simpa using q2
      · rw [cell_heap_eq (w := w) (by rw [hheap, if_neg hb])]
        exact q2
  refine ⟨κ', ?_⟩
  have main := hs.setObj (κ' := κ') (w' := w.setCells b (n * sz) xs) hg hset hk rfl (fun d' i' m' hne => ?_) hF (fun b' _ hb' => ⟨?_, fun x => ?_⟩) (by rw [setCells_size]; exact Nat.le_refl _) r1 r2 r3
    ⟨b, cap, sz, by simp [κ'], hm, ⟨(splice C.toList (n * sz) xs).toArray, e, fz, by rw [hheap]; simp, by simp [splice_length, h3], by simpa [splice_length] using h4⟩, fun o ho => ?_, fun m' hm' => ?_⟩ (fun b' hb' => ?_)
  · refine ⟨main.1, main.2, by simp [κ'], fun j x hj => ?_⟩
    have hjl : j < xs.length := (List.getElem?_eq_some_iff.1 hj).1
    have q1 : n * sz ≤ n * sz + j := Nat.le_add_right _ _
    have q2 : n * sz + j < m * sz := by omega
    simp only [κ', Kap.freeze]
    rw [if_pos (⟨trivial, trivial, q1, by rw [hE]; exact q2⟩ : True ∧ True ∧ n * sz ≤ n * sz + j ∧ n * sz + j < E.size), hEx _ q1 q2, Nat.add_sub_cancel_left, hj]
  · simp only [κ']
    rw [if_neg]
    rintro ⟨rfl, rfl, _⟩
    exact hne ⟨rfl, rfl⟩
  · rw [hheap, if_neg]
    rintro rfl
    exact hb' (by simp [blockOf, htk])
  · have : b' ≠ b := by rintro rfl; exact hb' (by simp [blockOf, htk])
    simp [κ', Kap.freeze, this]
  · simp only [κ', Kap.freeze]
    rw [if_neg]
    · exact h5 o (by omega)
    · rintro ⟨_, _, _, q⟩
      rw [hE] at q
      omega
  · simp only [κ']
    rw [if_neg (by omega)]
    exact h6 m' (by omega)
  · left
    simp [blockOf, κ'] at hb'
    simp [blockOf, htk, hb']

/-- The token's elements move to a new block. -/
theorem Sim.moveTok {κ : Kap} {s s' : St} {w w' : World} (hs : Sim κ s w) {d i n m : Nat} (hg : s.get (.g d i) = some (.tok n)) (hset : s.set (.g d i) (.tok m) = some s') (hnm : n < m)
    (C : Array Value) (e : TypeId) (cap sz : Nat) (hC : C.size = cap * sz) (hm : m ≤ cap) (hw : w'.heap = w.heap.push (.cells C e (0, 0))) (ho : w'.os = w.os) (ht : w'.tape = w.tape) (hu : w'.output = w.output) :
    ∃ κ', Sim κ' s' w' ∧ Ext κ s w κ' s' w' ∧ κ'.tk d i m = some (⟨w.heap.size, 0, none⟩, cap, sz) ∧ ∀ j, j < m * sz → κ'.F ⟨w.heap.size, j, none⟩ = C[j]? := by
  obtain ⟨b, cap', sz', h1, h0, ⟨C', e', fz', h2, h3, h4⟩, h5, h6⟩ := hs.obj d i _ hg
  obtain ⟨hdd, hii⟩ := hs.get_lt hg
  have hle : m * sz ≤ C.size := by rw [hC]; exact Nat.mul_le_mul_right _ hm
  have hEl : ((C.toList.take (m * sz)).toArray).size = m * sz := by simp; omega
  have hold : ∀ b, b < w.heap.size → w'.heap[b]? = w.heap[b]? := fun b hb => by rw [hw, Array.getElem?_push]; simp [Nat.ne_of_lt hb]
  have hnew : w'.heap[w.heap.size]? = some (.cells C e (0, 0)) := by rw [hw]; simp
  let κ' : Kap := { (κ.freeze w.heap.size 0 (C.toList.take (m * sz)).toArray) with tk := fun d' i' m' => if d' = d ∧ i' = i ∧ m' = m then some (⟨w.heap.size, 0, none⟩, cap, sz) else κ.tk d' i' m' }
  have hk : KLe κ κ' (s.depth + 1) := by
    refine ⟨fun a v h => (KLe.freeze (fun j hj => hs.F_new (Nat.le_refl _)) (s.depth + 1)).F a v h, fun _ _ => Nat.le_refl _, fun _ _ _ _ => rfl, fun d' i' m' x _ _ h => ?_⟩
    simp only [κ']
    split
    · rename_i hc
      obtain ⟨rfl, rfl, rfl⟩ := hc
      rw [h6 _ hnm] at h
      cases h
    · exact h
  have hFC : ∀ j, j < m * sz → κ'.F ⟨w.heap.size, j, none⟩ = C[j]? := by
    intro j hj
    simp only [κ', Kap.freeze]
    rw [if_pos (⟨trivial, trivial, Nat.zero_le _, by rw [hEl]; exact hj⟩ : True ∧ True ∧ 0 ≤ j ∧ j < ((C.toList.take (m * sz)).toArray).size)]
    simp [hj]
  refine ⟨κ', ?_⟩
  have main := hs.setObj (κ' := κ') (w' := w') hg hset hk rfl (fun d' i' m' hne => ?_) (fun a v h => ?_) (fun b' hb' _ => ⟨hold b' hb', fun x => ?_⟩) (by rw [hw]; simp) ho ht hu
    ⟨w.heap.size, cap, sz, by simp [κ'], hm, ⟨C, e, (0, 0), hnew, hC, fun j _ => by simp⟩, fun o ho' => ?_, fun m' hm' => ?_⟩ (fun b' hb' => ?_)
  · exact ⟨main.1, main.2, by simp [κ'], hFC⟩
  · simp only [κ']
    rw [if_neg]
    rintro ⟨rfl, rfl, _⟩
    exact hne ⟨rfl, rfl⟩
  · simp only [κ', Kap.freeze] at h
    split at h
    · rename_i hc
      obtain ⟨c1, c2, c3, c4⟩ := hc
      rw [hEl] at c4
      refine ⟨c2, ?_⟩
      have ha : a = ⟨w.heap.size, a.off, none⟩ := by cases a; simp_all
      rw [ha, cell_of_heap hnew]
      rw [List.getElem?_toArray, List.getElem?_take] at h
      simpa [c4] using h
    · obtain ⟨q1, q2⟩ := hs.froz a v h
      exact ⟨q1, by rw [cell_heap_eq (hold _ (cell_lt q2))]; exact q2⟩
  · simp [κ', Kap.freeze, Nat.ne_of_lt hb']
  · simp only [κ', Kap.freeze]
    rw [if_neg (by intro h; have := h.2.2.2; rw [hEl] at this; omega)]
    exact hs.F_new (Nat.le_refl _)
  · simp only [κ']
    rw [if_neg (by omega)]
    exact h6 m' (by omega)
  · right
    simp [blockOf, κ'] at hb'
    omega

/-! ### Frames -/
/-- The frame of a call. -/
def St.push (s : St) : St := { own := [], up := s.own :: s.up, ro := s.ro }
theorem St.push_depth (s : St) : s.push.depth = s.depth + 1 := by simp [St.push, St.depth]; omega
theorem St.push_fr (s : St) (d : Nat) : s.push.fr d = if d = s.depth + 1 then some [] else s.fr d := by
  unfold St.fr
  rw [St.push_depth]
  by_cases h1 : d = s.depth + 1
  · simp [h1, St.push]
  · simp only [h1, ↓reduceIte]
    by_cases h2 : d = s.depth
    · simp [h2, St.push]
    · by_cases h3 : d < s.depth
      · have h4 : d < s.depth + 1 := by omega
        simp only [h2, h3, h4, ↓reduceIte, St.push]
        rw [show s.depth + 1 - 1 - d = (s.depth - 1 - d) + 1 by omega, List.cons_append, List.getElem?_cons_succ]
      · have h4 : ¬ d < s.depth + 1 := by omega
        simp [h2, h3, h4]
theorem St.push_get (s : St) (d i : Nat) : s.push.get (.g d i) = s.get (.g d i) := by
  rw [St.get_g, St.get_g, St.push_fr]
  by_cases h : d = s.depth + 1
  · subst h
    have h1 : s.fr (s.depth + 1) = none := by
      have q : ¬ s.depth + 1 < s.depth := by omega
      simp [St.fr, q]
    simp [h1]
  · simp [h]

theorem Sim.push {κ : Kap} {s : St} {w : World} (hs : Sim κ s w) : ∃ κ', Sim κ' s.push w ∧ KLe κ κ' (s.depth + 1) ∧ κ'.F = κ.F ∧ ∀ d i o, s.get (.g d i) = some o → blockOf κ' d i o = blockOf κ d i o := by
  refine ⟨{ κ with n := fun d => if d = s.depth + 1 then 0 else κ.n d }, ?_⟩
  have hk : KLe κ { κ with n := fun d => if d = s.depth + 1 then 0 else κ.n d } (s.depth + 1) := by
    refine ⟨fun _ _ h => h, fun d hd => ?_, fun _ _ _ _ => rfl, fun _ _ _ _ _ _ h => h⟩
    simp only
    rw [if_neg (by omega)]
    exact Nat.le_refl _
  have key : ∀ d i o, s.get (.g d i) = some o → OR { κ with n := fun d => if d = s.depth + 1 then 0 else κ.n d } d i w o ∧ blockOf { κ with n := fun d => if d = s.depth + 1 then 0 else κ.n d } d i o = blockOf κ d i o := fun d i o h =>
    (hs.obj d i o h).keep (hs.lt_n h) (hk.low (by have := St.get_depth h; omega)) (fun m => rfl) (fun b _ => ⟨rfl, fun _ => rfl⟩)
  refine ⟨⟨hs.froz, fun d l h => ?_, fun d i o h => ?_, fun d i o d' i' o' b h h' e e' => ?_⟩, hk, rfl, fun d i o h => (key d i o h).2⟩
  · rw [St.push_fr] at h
    split at h
    · rename_i hd; simp only [Option.some.injEq] at h; simp [← h, hd]
    · rename_i hd; simp only [hd, ↓reduceIte]; exact hs.len d l h
  · rw [St.push_get] at h
    exact (key d i o h).1
  · rw [St.push_get] at h h'
    rw [(key d i o h).2] at e
    rw [(key d' i' o' h').2] at e'
    exact hs.inj d i o d' i' o' b h h' e e'

theorem St.pop_facts {s : St} {own : List AObj} {up : List (List AObj)} (h : s.up = own :: up) : ({ own, up, ro := s.ro } : St).push = { s with own := [] } := by
  simp [St.push, h]
theorem St.pop_get {s : St} {own : List AObj} {up : List (List AObj)} (h : s.up = own :: up) {d i : Nat} {o : AObj} (hg : ({ own, up, ro := s.ro } : St).get (.g d i) = some o) : s.get (.g d i) = some o := by
  have hd := St.get_depth hg
  rw [← St.push_get, St.pop_facts h] at hg
  have hsd : s.depth = ({ own, up, ro := s.ro } : St).depth + 1 := by simp [St.depth, h]; omega
  have hne : d ≠ s.depth := by omega
  unfold St.get at hg ⊢
  have e : ({ s with own := [] } : St).depth = s.depth := rfl
  rw [e] at hg
  simp only [hne, ↓reduceIte] at hg ⊢
  exact hg
theorem Sim.pop {κ : Kap} {s : St} {w : World} (hs : Sim κ s w) {own : List AObj} {up : List (List AObj)} (h : s.up = own :: up) : Sim κ { own, up, ro := s.ro } w := by
  refine ⟨hs.froz, fun d l hd => ?_, fun d i o hg => hs.obj d i o (St.pop_get h hg), fun d i o d' i' o' b hg hg' => hs.inj d i o d' i' o' b (St.pop_get h hg) (St.pop_get h hg')⟩
  have hsd : s.depth = ({ own, up, ro := s.ro } : St).depth + 1 := by simp [St.depth, h]; omega
  have hlt : d ≤ ({ own, up, ro := s.ro } : St).depth := by
    rcases Nat.lt_or_ge ({ own, up, ro := s.ro } : St).depth d with q | q
    · have q1 : d ≠ ({ own, up, ro := s.ro } : St).depth := by omega
      have q2 : ¬ d < ({ own, up, ro := s.ro } : St).depth := by omega
      simp [St.fr, q1, q2] at hd
    · exact q
  have q : ({ own, up, ro := s.ro } : St).push.fr d = some l := by rw [St.push_fr, if_neg (by omega)]; exact hd
  rw [St.pop_facts h] at q
  refine hs.len d l ?_
  unfold St.fr at q ⊢
  have e : ({ s with own := [] } : St).depth = s.depth := rfl
  rw [e] at q
  have hne : d ≠ s.depth := by omega
  simp only [hne, ↓reduceIte] at q ⊢
  exact q

/-- No object at all. -/
theorem Sim.empty {κ : Kap} {s : St} {w : World} (hs : Sim κ s w) : Sim { κ with n := fun _ => 0 } { own := [], up := [], ro := [] } w := by
  have hno : ∀ d i, ({ own := [], up := [], ro := [] } : St).get (.g d i) = none := by intro d i; simp [St.get]
  refine ⟨hs.froz, fun d l h => ?_, fun d i o h => ?_, fun d i o d' i' o' b h => ?_⟩
  · unfold St.fr at h
    simp at h
    simp [h]
  · rw [hno] at h; cases h
  · rw [hno] at h; cases h
end Go.Ab
