/- Each operation of the abstract side is the machine's (7): what is compared, made, stored, frozen, copied. -/
import Derived.Test.YtnafklimohmfkaaDoorOps6
namespace Go.Ab
set_option linter.unusedSimpArgs false

theorem chunk1_cells (c : AV) : (chunk1 c).cells = [c] := by cases c <;> rfl
theorem chunk_length (sz : Nat) : ∀ (n : Nat) (cs : List AV), (chunk sz n cs).length = n
  | 0, _ => rfl
  | n + 1, cs => by simp [chunk, chunk_length sz n]
theorem chunk_cells (sz : Nat) (hsz : sz ≠ 0) : ∀ (n : Nat) (cs : List AV), n * sz ≤ cs.length → (chunk sz n cs).flatMap AV.cells = cs.take (n * sz) ∧ ∀ e, e ∈ chunk sz n cs → e.cells.length = sz
  | 0, cs, _ => by simp [chunk]
  | n + 1, cs, h => by
    rw [Nat.succ_mul] at h
    obtain ⟨h1, h2⟩ := chunk_cells sz hsz n (cs.drop sz) (by simp; omega)
    have hd : (chunkHd sz cs).cells = cs.take sz := by
      unfold chunkHd
      split
      · cases cs with
        | nil => simp at h
        | cons c cs => rw [chunk1_cells]; simp
      · rfl
    have hl : (cs.take sz).length = sz := by simp; omega
    refine ⟨?_, ?_⟩
    · simp only [chunk, List.flatMap_cons]
      rw [hd, h1, Nat.succ_mul, Nat.add_comm, ← List.take_add]
    · intro e he
      simp only [chunk, List.mem_cons] at he
      rcases he with rfl | he
      · rw [hd, hl]
      · exact h2 e he

section
variable {P : Program} {ty : TypeId} {ρ : Operand → Value} {κ : Kap} {s : St} {w : World} (hs : Sim κ s w)
include hs

theorem gives_nilCheck {v : AV} {x : Operand} (hx : VR κ (s.depth + 1) (v.pub s.depth) (ρ x)) (hn : isNil v = some false) : Gives P (.nilCheck x) ty ρ κ s w v s := by
  refine gives_same hs (ρ x) (fun dst pos after guard => ?_) hx
  generalize hy : ρ x = y at hx
  generalize hv : v.pub s.depth = v' at hx
  have hn' : isNil v' = some false := by
    rw [← hv]
    cases v with
    | sl sz es g => cases g <;> first | exact hn | (simp [isNil] at hn)
    | _ => exact hn
  cases hx <;> simp [isNil] at hn' <;> simp [execOp, hy]

omit hs in
theorem isNil_pub {v : AV} (d : Nat) : isNil (v.pub d) = isNil v := by
  cases v with
  | sl sz es g => cases g <;> rfl
  | _ => rfl
omit hs in
theorem kindOK_pub {e : EK} {v : AV} (d : Nat) : kindOK e (v.pub d) = kindOK e v := by
  cases v <;> cases e <;> rfl

/-- What a type's values look like, by kind. -/
def okEK (e : EK) (d : TypeDesc) : Bool :=
  match e, d with
  | .bool, .bool | .slice, .slice _ | .ptr, .pointer _ | .func, .func .. | .map, .map .. | .iface, .interface _ => true
  | _, _ => false

omit hs in
theorem equal_succ (t : TypeId) (X Y : Value) : Op.equal t X Y = Op.equalIn (9999 + 1) t X Y := rfl

/-- The forms in which two values of a kind are compared. -/
inductive EqForm : TypeDesc → Value → Value → Bool → Prop
  | bool (a b : Bool) : EqForm .bool (.bool a) (.bool b) (a == b)
  | slice1 (el : TypeId) (l c : Nat) (B : Option Addr) (l' c' : Nat) : EqForm (.slice el) (.slice none l c) (.slice B l' c') B.isNone
  | slice2 (el : TypeId) (a : Addr) (l c l' c' : Nat) : EqForm (.slice el) (.slice (some a) l c) (.slice none l' c') false
  | ptr1 (el : TypeId) (B : Option Addr) : EqForm (.pointer el) (.pointer none) (.pointer B) B.isNone
  | ptr2 (el : TypeId) (a : Addr) : EqForm (.pointer el) (.pointer (some a)) (.pointer none) false
  | func0 (p r : Array TypeId) (v : Bool) : EqForm (.func p r v) .nilFunc .nilFunc true
  | func1 (p r : Array TypeId) (v : Bool) (f : Fn) (x y : Array Value) : EqForm (.func p r v) .nilFunc (.func f x y) false
  | func2 (p r : Array TypeId) (v : Bool) (f : Fn) (x y : Array Value) : EqForm (.func p r v) (.func f x y) .nilFunc false
  | map1 (k el : TypeId) (B : Option Nat) : EqForm (.map k el) (.map none) (.map B) B.isNone
  | map2 (k el : TypeId) (a : Nat) : EqForm (.map k el) (.map (some a)) (.map none) false
  | iface1 (ms : Array (String × TypeId)) (t : TypeId) (v : Value) : EqForm (.interface ms) .nilIface (.iface t v) false
  | iface2 (ms : Array (String × TypeId)) (t : TypeId) (v : Value) : EqForm (.interface ms) (.iface t v) .nilIface false

omit hs in
theorem EqForm.run {t : TypeId} {d : TypeDesc} (ht : P.underlying t = some d) {X Y : Value} {b : Bool} (h : EqForm d X Y b) : (Op.equal t X Y).run P w = .ok b w := by
  rw [equal_succ]
  generalize (9999 : Nat) = n
  cases h <;> simp only [Op.equalIn, Sem.run_bind, run_underlying ht, Result.andThen_ok, Sem.run_pure]
omit hs in
theorem EqForm.guard {d : TypeDesc} {X Y : Value} {b : Bool} (h : EqForm d X Y b) (op : BinOp) (t : TypeId) (x y : Operand) : (eqGuard op t x y X Y).run P w = .ok () w := by
  cases h <;> unfold eqGuard <;> cases op <;> rfl
omit hs in
theorem EqForm.gives {t yt : TypeId} {d : TypeDesc} (ht : P.underlying t = some d) {x y : Operand} {b : Bool} (neg : Bool) (h : EqForm d (ρ x) (ρ y) b) (dst : Option Tmp) (pos : String) (after : Array Edge) (guard : Option (Nat × Bool)) :
    (execOp ρ ⟨dst, .binOp (if neg then .neq else .eql) t x y yt, ty, pos, after, guard⟩).run P w = .ok (.value (.bool (bif neg then !b else b))) w := by
  have h1 := h.run (w := w) ht
  have h2 := h.guard (P := P) (w := w) (if neg then .neq else .eql) t x y
  have hb : ∀ (op : BinOp), op = .eql ∨ op = .neq → binOp op t (ρ x) (ρ y) = match op with
      | .eql => (do pure (.bool (← Op.equal t (ρ x) (ρ y))) : Sem Value)
      | _ => (do pure (.bool (!(← Op.equal t (ρ x) (ρ y)))) : Sem Value) := by
    intro op ho
    generalize ρ x = X at h
    generalize ρ y = Y at h
    rcases ho with rfl | rfl <;> cases h <;> rfl
  cases neg
  · have hb' := hb .eql (.inl rfl)
    simp only [Bool.false_eq_true, ↓reduceIte] at h2 ⊢
    simp only [execOp, Sem.run_bind, h2, Result.andThen_ok, hb', h1, Sem.run_pure, cond_false]
  · have hb' := hb .neq (.inr rfl)
    simp only [↓reduceIte] at h2 ⊢
    simp only [execOp, Sem.run_bind, h2, Result.andThen_ok, hb', h1, Sem.run_pure, cond_true]

omit hs in
theorem eqV_pub (e : EK) (v u : AV) (d : Nat) : eqV e (v.pub d) (u.pub d) = eqV e v u := by
  cases e with
  | bool => cases v <;> cases u <;> rfl
  | agg => cases v <;> cases u <;> rfl
  | _ => simp only [eqV, kindOK_pub, isNil_pub]

omit hs in
theorem slice_form {D : Nat} {v : AV} {X : Value} (h : VR κ D v X) (hk : kindOK .slice v = true) : ∃ A l c, X = .slice A l c ∧ ∀ b, isNil v = some b → A.isNone = b := by
  cases v <;> simp [kindOK] at hk
  case sl sz es g =>
    rcases h.sl_inv with ⟨rfl, rfl, rfl⟩ | ⟨a, cap, vals, rfl, hg, _⟩
    · exact ⟨_, _, _, rfl, fun b hb => by simpa [isNil] using hb⟩
    · refine ⟨_, _, _, rfl, fun b hb => ?_⟩
      cases g <;> simp [isNil, GrOK] at hb hg <;> simp [← hb]
  case msl a off len cap sz =>
    cases h
    exact ⟨_, _, _, rfl, fun b hb => by simpa [isNil] using hb⟩
omit hs in
theorem ptr_form {D : Nat} {v : AV} {X : Value} (h : VR κ D v X) (hk : kindOK .ptr v = true) : ∃ A, X = .pointer A ∧ ∀ b, isNil v = some b → A.isNone = b := by
  cases h <;> simp [kindOK] at hk <;> exact ⟨_, rfl, fun b hb => by simpa [isNil] using hb⟩
omit hs in
theorem func_form {D : Nat} {v : AV} {X : Value} (h : VR κ D v X) (hk : kindOK .func v = true) : (X = .nilFunc ∧ ∀ b, isNil v = some b → b = true) ∨ ((∃ f x y, X = .func f x y) ∧ ∀ b, isNil v = some b → b = false) := by
  cases h <;> simp [kindOK] at hk
  · exact .inr ⟨⟨_, _, _, rfl⟩, fun b hb => by simpa [isNil] using hb.symm⟩
  · exact .inl ⟨rfl, fun b hb => by simpa [isNil] using hb.symm⟩
omit hs in
theorem map_form {D : Nat} {v : AV} {X : Value} (h : VR κ D v X) (hk : kindOK .map v = true) : ∃ A, X = .map A ∧ ∀ b, isNil v = some b → A.isNone = b := by
  cases h <;> simp [kindOK] at hk <;> exact ⟨_, rfl, fun b hb => by simpa [isNil] using hb⟩
omit hs in
theorem iface_form {D : Nat} {v : AV} {X : Value} (h : VR κ D v X) (hk : kindOK .iface v = true) : (X = .nilIface ∧ ∀ b, isNil v = some b → b = true) ∨ ((∃ t x, X = .iface t x) ∧ ∀ b, isNil v = some b → b = false) := by
  cases h <;> simp [kindOK] at hk
  · exact .inr ⟨⟨_, _, rfl⟩, fun b hb => by simpa [isNil] using hb.symm⟩
  · exact .inl ⟨rfl, fun b hb => by simpa [isNil] using hb.symm⟩

omit hs in
theorem eq_form {D : Nat} {e : EK} {v u : AV} {X Y : Value} {d : TypeDesc} {b : Bool} (hd : okEK e d = true) (hx : VR κ D v X) (hy : VR κ D u Y) (h : eqV e v u = some b) : EqForm d X Y b := by
  have main : e ≠ .bool → e ≠ .agg → ∃ p q, kindOK e v = true ∧ kindOK e u = true ∧ isNil v = some p ∧ isNil u = some q ∧ (p = true ∧ b = q ∧ ¬ (q = true ∧ e = .iface) ∨ p = false ∧ q = true ∧ b = false) := by
    intro h1 h2
    have h' : (bif kindOK e v && kindOK e u then
        match isNil v, isNil u with
        | some true, some b => bif b && decide (e = .iface) then none else some b
        | some false, some true => some false
        | _, _ => none
      else none) = some b := by
      cases e <;> first | exact absurd rfl h1 | exact absurd rfl h2 | exact h
    cases hk : (kindOK e v && kindOK e u) with
    | false => rw [hk] at h'; simp at h'
    | true =>
      rw [hk, cond_true] at h'
      rw [Bool.and_eq_true] at hk
      cases hv : isNil v with
      | none => rw [hv] at h'; simp at h'
      | some p =>
        cases hu : isNil u with
        | none => rw [hv, hu] at h'; cases p <;> simp at h'
        | some q =>
          rw [hv, hu] at h'
          refine ⟨p, q, hk.1, hk.2, rfl, rfl, ?_⟩
          cases p
          · cases q
            · simp at h'
            · right; simp at h'; exact ⟨rfl, rfl, h'⟩
          · left
            simp only at h'
            cases hq : (q && decide (e = .iface)) with
            | true => rw [hq] at h'; simp at h'
            | false => rw [hq] at h'; simp at h' hq; exact ⟨rfl, h'.symm, by simpa using hq⟩
  cases e
  case bool =>
    have hd' : d = .bool := by cases d <;> simp [okEK] at hd ⊢
    subst hd'
    cases v <;> cases u <;> simp [eqV] at h
    subst h
    rw [hx.bool_inv, hy.bool_inv]
    exact .bool _ _
  case agg => cases d <;> simp [okEK] at hd
  case slice =>
    obtain ⟨el, rfl⟩ : ∃ el, d = .slice el := by cases d <;> simp [okEK] at hd ⊢
    obtain ⟨p, q, k1, k2, n1, n2, hb⟩ := main (by simp) (by simp)
    obtain ⟨A, l, c, rfl, hA⟩ := slice_form hx k1
    obtain ⟨B, l', c', rfl, hB⟩ := slice_form hy k2
    have hA := hA p n1
    have hB := hB q n2
    rcases hb with ⟨rfl, rfl, _⟩ | ⟨rfl, rfl, rfl⟩
    · cases A <;> simp at hA; rw [← hB]; exact .slice1 ..
    · cases A <;> simp at hA; cases B <;> simp at hB; exact .slice2 ..
  case ptr =>
    obtain ⟨el, rfl⟩ : ∃ el, d = .pointer el := by cases d <;> simp [okEK] at hd ⊢
    obtain ⟨p, q, k1, k2, n1, n2, hb⟩ := main (by simp) (by simp)
    obtain ⟨A, rfl, hA⟩ := ptr_form hx k1
    obtain ⟨B, rfl, hB⟩ := ptr_form hy k2
    have hA := hA p n1
    have hB := hB q n2
    rcases hb with ⟨rfl, rfl, _⟩ | ⟨rfl, rfl, rfl⟩
    · cases A <;> simp at hA; rw [← hB]; exact .ptr1 ..
    · cases A <;> simp at hA; cases B <;> simp at hB; exact .ptr2 ..
  case map =>
    obtain ⟨k, el, rfl⟩ : ∃ k el, d = .map k el := by cases d <;> simp [okEK] at hd ⊢
    obtain ⟨p, q, k1, k2, n1, n2, hb⟩ := main (by simp) (by simp)
    obtain ⟨A, rfl, hA⟩ := map_form hx k1
    obtain ⟨B, rfl, hB⟩ := map_form hy k2
    have hA := hA p n1
    have hB := hB q n2
    rcases hb with ⟨rfl, rfl, _⟩ | ⟨rfl, rfl, rfl⟩
    · cases A <;> simp at hA; rw [← hB]; exact .map1 ..
    · cases A <;> simp at hA; cases B <;> simp at hB; exact .map2 ..
  case func =>
    obtain ⟨ps, rs, vv, rfl⟩ : ∃ ps rs vv, d = .func ps rs vv := by cases d <;> simp [okEK] at hd ⊢
    obtain ⟨p, q, k1, k2, n1, n2, hb⟩ := main (by simp) (by simp)
    rcases func_form hx k1 with ⟨rfl, hA⟩ | ⟨⟨f, x, y, rfl⟩, hA⟩ <;> rcases func_form hy k2 with ⟨rfl, hB⟩ | ⟨⟨f', x', y', rfl⟩, hB⟩ <;> have hA := hA p n1 <;> have hB := hB q n2 <;> subst hA hB <;> simp at hb <;> try subst hb
    · exact .func0 ..
    · exact .func1 ..
    · exact .func2 ..
  case iface =>
    obtain ⟨ms, rfl⟩ : ∃ ms, d = .interface ms := by cases d <;> simp [okEK] at hd ⊢
    obtain ⟨p, q, k1, k2, n1, n2, hb⟩ := main (by simp) (by simp)
    rcases iface_form hx k1 with ⟨rfl, hA⟩ | ⟨⟨f, x, rfl⟩, hA⟩ <;> rcases iface_form hy k2 with ⟨rfl, hB⟩ | ⟨⟨f', x', rfl⟩, hB⟩ <;> have hA := hA p n1 <;> have hB := hB q n2 <;> subst hA hB <;> simp at hb <;> try subst hb
    · exact .iface1 ..
    · exact .iface2 ..

theorem gives_nilI {neg : Bool} {v : AV} {t yt : TypeId} {x : Operand} {ms : Array (String × TypeId)} {op : BinOp} {z : AV} (hop : op = if neg then .neq else .eql) (ht : P.underlying t = some (.interface ms)) (hx : VR κ (s.depth + 1) (v.pub s.depth) (ρ x)) (hc : ρ (.const .nilIface) = .nilIface) (h : nilIV neg v = some z) : Gives P (.binOp op t x (.const .nilIface) yt) ty ρ κ s w z s := by
  cases v <;> simp [nilIV] at h
  case iface t' v' =>
    subst h
    obtain ⟨y, ey, hy⟩ := VR.iface_inv (t := t') (v := v') hx
    have hf : EqForm (.interface ms) (ρ x) (ρ (.const .nilIface)) false := by rw [ey, hc]; exact .iface2 ms t' y
    have := gives_same (P := P) (ty := ty) (o := .binOp op t x (.const .nilIface) yt) (ρ := ρ) hs (v := .bool neg) _ (fun dst pos after guard => by
      have := hf.gives (ty := ty) (w := w) (yt := yt) ht neg dst pos after guard
      rw [hop]
      exact this) (by cases neg <;> exact .bool _)
    exact this
  case nili =>
    subst h
    have ex : ρ x = .nilIface := by
      simp only [AV.pub] at hx
      generalize ρ x = q at hx
      cases hx; rfl
    refine gives_same hs (.bool (!neg)) (fun dst pos after guard => ?_) (.bool _)
    subst hop
    have e1 : (Op.equal t .nilIface .nilIface).run P w = .ok true w := by
      rw [equal_succ]
      generalize (9999 : Nat) = n
      simp only [Op.equalIn, Sem.run_bind, run_underlying ht, Result.andThen_ok, Sem.run_pure]
    cases neg
    · have e2 : (eqGuard .eql t x (.const .nilIface) .nilIface .nilIface).run P w = .ok () w := by
        unfold eqGuard
        cases x <;> rfl
      have hb : binOp .eql t .nilIface .nilIface = (do pure (.bool (← Op.equal t .nilIface .nilIface)) : Sem Value) := rfl
      simp only [execOp, Bool.false_eq_true, ↓reduceIte, ex, hc, Sem.run_bind, e2, Result.andThen_ok, hb, e1, Sem.run_pure, Bool.not_false]
    · have e2 : (eqGuard .neq t x (.const .nilIface) .nilIface .nilIface).run P w = .ok () w := by
        unfold eqGuard
        cases x <;> rfl
      have hb : binOp .neq t .nilIface .nilIface = (do pure (.bool (!(← Op.equal t .nilIface .nilIface))) : Sem Value) := rfl
      simp only [execOp, ↓reduceIte, ex, hc, Sem.run_bind, e2, Result.andThen_ok, hb, e1, Sem.run_pure, Bool.not_true]

theorem gives_eq {e : EK} {b neg : Bool} {v u : AV} {t yt : TypeId} {x y : Operand} {d : TypeDesc} {op : BinOp} (hop : op = if neg then .neq else .eql) (ht : P.underlying t = some d) (hd : okEK e d = true)
    (hx : VR κ (s.depth + 1) (v.pub s.depth) (ρ x)) (hy : VR κ (s.depth + 1) (u.pub s.depth) (ρ y)) (h : eqV e v u = some b) : Gives P (.binOp op t x y yt) ty ρ κ s w (.bool (bif neg then !b else b)) s := by
  subst hop
  exact gives_same hs _ ((eq_form hd hx hy (by rw [eqV_pub]; exact h)).gives ht neg) (.bool _)
end
end Go.Ab
