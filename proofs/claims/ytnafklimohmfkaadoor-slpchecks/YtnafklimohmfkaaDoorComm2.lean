/- A region's operations in another order. -/
import Derived.Test.YtnafklimohmfkaaDoorComm
namespace Go.Ab
set_option linter.unusedSimpArgs false
set_option linter.unusedSectionVars false

theorem bound_congr {G g g' : Nat → AV} {o : Option AOpd} {d : Nat} (h : ∀ x, x ∈ o.toList → opnd G g x = opnd G g' x) : bound G g o d = bound G g' o d := by
  cases o with
  | none => rfl
  | some x => simp only [bound, h x (by simp)]
theorem fillParts_congr {G g g' : Nat → AV} {d : Nat} : ∀ (ps : List (Nat × Nat × AOpd)) (cs : List AV), (∀ x, x ∈ ps.map (·.2.2) → opnd G g x = opnd G g' x) → fillParts G d g cs ps = fillParts G d g' cs ps
  | [], _, _ => rfl
  | (off, sz, x) :: ps, cs, h => by
    simp only [fillParts, h x (by simp)]
    congr 1
    exact fillParts_congr ps _ (fun y hy => h y (by simp only [List.map_cons, List.mem_cons]; exact .inr hy))
theorem map_congr {G g g' : Nat → AV} {f : AV → AV} (xs : List AOpd) (h : ∀ x, x ∈ xs → opnd G g x = opnd G g' x) : xs.map (fun x => f (opnd G g x)) = xs.map fun x => f (opnd G g' x) := List.map_congr_left fun x hx => by rw [h x hx]

theorem step_congr {E : Env} {g g' : Nat → AV} {op : AOp} (h : ∀ x, x ∈ op.opds → opnd E.glob g x = opnd E.glob g' x) (s : St) (k kp : AV → St → Res) : stepOp E g s k kp op = stepOp E g' s k kp op := by
  cases op <;> simp only [AOp.opds, List.mem_cons, List.not_mem_nil, or_false, forall_eq_or_imp, forall_eq, List.mem_append] at h <;> simp only [stepOp]
  case build z ps => rw [fillParts_congr ps z h]
  case buildSlice sz ps =>
    have : ps.map (opnd E.glob g) = ps.map (opnd E.glob g') := List.map_congr_left h
    rw [this]
  case mkFunc f xs => rw [map_congr xs h]
  case call f xs => rw [map_congr xs h]
  case callP f xs => rw [map_congr xs h]
  case min xs => rw [map_congr xs h]
  case max xs => rw [map_congr xs h]
  case callV f xs => rw [h.1, map_congr xs h.2]
  case callVP f xs => rw [h.1, map_congr xs h.2]
  case subStr x lo hi =>
    unfold subStrV
    rw [h.1]
    cases opnd E.glob g' x <;> try rfl
    simp only
    rw [bound_congr (o := lo) (fun x hx => h.2 x (.inl hx)), bound_congr (o := hi) (fun x hx => h.2 x (.inr hx))]
  case slice z x lo hi mx =>
    unfold sliceV
    rw [h.1]
    have e1 : ∀ d, bound E.glob g lo d = bound E.glob g' lo d := fun d => bound_congr (fun x hx => h.2 x (.inl (.inl hx)))
    have e2 : ∀ d, bound E.glob g hi d = bound E.glob g' hi d := fun d => bound_congr (fun x hx => h.2 x (.inl (.inr hx)))
    have e3 : ∀ d, bound E.glob g mx d = bound E.glob g' mx d := fun d => bound_congr (fun x hx => h.2 x (.inr hx))
    cases opnd E.glob g' x <;> try rfl
    · simp only [e1, e2]
      cases mx with
      | none => rfl
      | some y =>
        have := h.2 y (.inr (by simp))
        simp only [this]
    · simp only [e1, e2, e3]
  case append q b at_ x y =>
    have e1 : atLoc E.glob g at_ = atLoc E.glob g' at_ := by
      cases at_ with
      | none => rfl
      | some z => simp only [atLoc, h z (.inl (by simp))]
    rw [e1, h x (.inr (.inl rfl)), h y (.inr (.inr rfl))]
  case callC ks f xs =>
    have e1 : (ks.map fun x => (x.1, opnd E.glob g x.2)) = ks.map fun x => (x.1, opnd E.glob g' x.2) := List.map_congr_left fun x hx => by rw [h x.2 (.inl (List.mem_map.2 ⟨x, hx, rfl⟩))]
    rw [map_congr xs (fun x hx => h x (.inr hx)), e1]
  case callVC ks f xs =>
    have e1 : (ks.map fun x => (x.1, opnd E.glob g x.2)) = ks.map fun x => (x.1, opnd E.glob g' x.2) := List.map_congr_left fun x hx => by rw [h.2 x.2 (.inl (List.mem_map.2 ⟨x, hx, rfl⟩))]
    rw [h.1, map_congr xs (fun x hx => h.2 x (.inr hx)), e1]
  case makeMap at_ =>
    have e1 : atLoc E.glob g at_ = atLoc E.glob g' at_ := by
      cases at_ with
      | none => rfl
      | some z => simp only [atLoc, h z (by simp)]
    rw [e1]
  all_goals first | rfl | simp only [h]

def upd (g : Nat → AV) (d : Option Nat) (v : AV) : Nat → AV :=
  match d with
  | none => g
  | some n => fun m => if m = n then v else g m
def wantedF (gd : Option (Nat × Bool)) (g : Nat → AV) : Option Bool :=
  match gd with
  | none => some true
  | some (t, w) =>
    match g t with
    | .bool b => some (b == w)
    | .tup _ => some false
    | _ => none
/-- What an operation leaves. -/
def eff (E : Env) (o : AOper) (g : Nat → AV) (s : St) : Option (AV × St) :=
  match wantedF o.guard g with
  | none => none
  | some false => some (.tup [], s)
  | some true =>
    match stepOp E g s .ok .panic o.op with
    | .ok v s' => some (v, s')
    | _ => none
def runF (E : Env) : List AOper → (Nat → AV) → St → Option ((Nat → AV) × St)
  | [], g, s => some (g, s)
  | o :: os, g, s => (eff E o g s).bind fun p => runF E os (upd g o.dst p.1) p.2

def AOpd.tmp : AOpd → List Nat
  | .t n => [n]
  | .at m b' _ => [m, b']
  | .adv b' _ => [b']
  | _ => []
def AOper.looks (o : AOper) : List Nat := o.op.opds.flatMap AOpd.tmp ++ (o.guard.map (·.1)).toList

def AOpd.same : AOpd → AOpd → Bool
  | .t n, .t m => Nat.beq n m
  | .g n, .g m => Nat.beq n m
  | .at _ b o, .adv b' o' => Nat.beq b b' && Nat.beq o o'
  | _, _ => false
theorem AOpd.same_eq {a b : AOpd} (h : a.same b = true) (G g : Nat → AV) : opnd G g a = .dead ∨ opnd G g a = opnd G g b := by
  cases a <;> cases b <;> simp [AOpd.same] at h
  · rw [h]; exact .inr rfl
  · rw [h]; exact .inr rfl
  · rw [h.1, h.2]
    rename_i t _ _ b off
    rcases atV_or (g t) (g b) off with e | ⟨_, e⟩
    · exact .inl e
    · exact .inr e
def sameN : Option Nat → Option Nat → Bool
  | none, none => true
  | some a, some b => Nat.beq a b
  | _, _ => false
theorem sameN_eq {a b : Option Nat} (h : sameN a b = true) : a = b := by
  cases a <;> cases b <;> simp [sameN] at h <;> simp [h]
/-- Does the second leave what the first loads? -/
def leaves (a b : AOp) : Bool :=
  match a with
  | .load n x =>
    match b with
    | .callC ks _ _ | .callVC ks _ _ => ks.any fun y => sameN n y.1 && x.same y.2
    | _ => false
  | _ => false
/-- May two operations change places? -/
def indep (a b : AOper) : Bool :=
  (match a.dst with
    | some d => !b.looks.contains d
    | none => true) &&
  (match b.dst with
    | some d => !a.looks.contains d
    | none => true) &&
  (match a.dst, b.dst with
    | some d, some e => !Nat.beq d e
    | _, _ => true) &&
  (Nat.beq a.op.cls 0 || Nat.beq b.op.cls 0 || (Nat.beq a.op.cls 1 && Nat.beq b.op.cls 1) || leaves a.op b.op || leaves b.op a.op)

theorem opnd_upd {G g : Nat → AV} {d : Option Nat} {v : AV} {x : AOpd} (h : ∀ n, d = some n → n ∉ x.tmp) : opnd G (upd g d v) x = opnd G g x := by
  cases d with
  | none => rfl
  | some n =>
    have h' := h n rfl
    cases x <;> try rfl
    · rename_i t
      have : n ≠ t := by simpa [AOpd.tmp] using h'
      simp [opnd, upd, Ne.symm this]
    · rename_i t b off
      have : n ≠ t ∧ n ≠ b := by simpa [AOpd.tmp, not_or] using h'
      simp [opnd, upd, Ne.symm this.1, Ne.symm this.2]
    · rename_i b off
      have : n ≠ b := by simpa [AOpd.tmp] using h'
      simp [opnd, upd, Ne.symm this]
theorem eff_upd {E : Env} {o : AOper} {g : Nat → AV} {d : Option Nat} {v : AV} (h : ∀ n, d = some n → n ∉ o.looks) (s : St) : eff E o (upd g d v) s = eff E o g s := by
  have h1 : wantedF o.guard (upd g d v) = wantedF o.guard g := by
    unfold wantedF
    cases hg : o.guard with
    | none => rfl
    | some p =>
      obtain ⟨t, w⟩ := p
      cases d with
      | none => rfl
      | some n =>
        have : n ≠ t := fun e => h n rfl (by rw [AOper.looks, hg]; simp [e])
        simp [upd, Ne.symm this]
  unfold eff
  rw [h1, step_congr (g' := g) (fun x hx => opnd_upd (fun n hn hx' => h n hn (by
    rw [AOper.looks]
    exact List.mem_append_left _ (List.mem_flatMap.2 ⟨x, hx, hx'⟩))))]
theorem upd_comm {g : Nat → AV} {d e : Option Nat} {v u : AV} (h : ∀ n m, d = some n → e = some m → n ≠ m) : upd (upd g d v) e u = upd (upd g e u) d v := by
  cases d with
  | none => rfl
  | some n =>
    cases e with
    | none => rfl
    | some m =>
      have := h n m rfl rfl
      funext t
      simp only [upd]
      by_cases h1 : t = m
      · by_cases h2 : t = n
        · exact absurd (h2.symm.trans h1) this
        · simp [h1, Ne.symm this]
      · simp [h1]

section
variable {E : Env} (hE : E.F = .not)
include hE
theorem eff_free {o : AOper} (hc : o.op.cls = 0) {g : Nat → AV} {s s' : St} {v : AV} (h : eff E o g s = some (v, s')) : s' = s ∧ ∀ s₂ : St, s₂.depth = s.depth → eff E o g s₂ = some (v, s₂) := by
  unfold eff at h ⊢
  cases hw : wantedF o.guard g with
  | none => rw [hw] at h; cases h
  | some b =>
    rw [hw] at h
    cases b with
    | false =>
      simp only [Option.some.injEq, Prod.mk.injEq] at h
      exact ⟨h.2.symm, fun s₂ _ => by rw [← h.1]⟩
    | true =>
      simp only at h
      obtain ⟨x, hx⟩ := step_free hE g hc s.depth
      rw [hx s _ _ rfl] at h
      cases x with
      | none => simp [optK] at h
      | some y =>
        simp only [optK, Option.some.injEq, Prod.mk.injEq] at h
        refine ⟨h.2.symm, fun s₂ hd => ?_⟩
        simp only
        rw [hx s₂ _ _ hd]
        simp [optK, h.1]
theorem eff_reads {o : AOper} (hc : o.op.cls = 1) {g : Nat → AV} {s s' : St} {v : AV} (h : eff E o g s = some (v, s')) : s' = s := by
  unfold eff at h
  cases hw : wantedF o.guard g with
  | none => rw [hw] at h; cases h
  | some b =>
    rw [hw] at h
    cases b with
    | false => simp only [Option.some.injEq, Prod.mk.injEq] at h; exact h.2.symm
    | true =>
      simp only at h
      split at h
      · rename_i v' s'' hst
        simp only [Option.some.injEq, Prod.mk.injEq] at h
        rw [← h.2]
        exact step_reads hE g hc hst
      · cases h
theorem eff_depth {o : AOper} {g : Nat → AV} {s s' : St} {v : AV} (h : eff E o g s = some (v, s')) : s'.depth = s.depth := by
  unfold eff at h
  cases hw : wantedF o.guard g with
  | none => rw [hw] at h; cases h
  | some b =>
    rw [hw] at h
    cases b with
    | false => simp only [Option.some.injEq, Prod.mk.injEq] at h; rw [h.2]
    | true =>
      simp only at h
      split at h
      · rename_i v' s'' hst
        simp only [Option.some.injEq, Prod.mk.injEq] at h
        rw [← h.2]
        exact step_depth hE g hst
      · cases h

theorem loadV_cells {n : Option Nat} {cs cs' : List AV} {s s' : St} {u : AV} {t : St} (h : cs.take (n.getD 1) = cs'.take (n.getD 1)) (hl : loadV E s .ok n cs = .ok u t) : loadV E s' .ok n cs' = .ok u s' := by
  cases n with
  | none =>
    simp only [Option.getD_none] at h
    cases cs with
    | nil => simp [loadV] at hl
    | cons c cs =>
      cases cs' with
      | nil => simp at h
      | cons c' cs' =>
        simp only [List.take_succ_cons, List.take_zero, List.cons.injEq, and_true] at h
        subst h
        simp only [loadV, hE, Force.not, Res.ok.injEq] at hl ⊢
        exact ⟨hl.1, trivial⟩
  | some n =>
    simp only [Option.getD_some] at h
    simp only [loadV, hE, Force.not] at hl ⊢
    cases hb : Nat.ble n cs.length with
    | false => rw [hb] at hl; cases hl
    | true =>
      rw [hb, cond_true] at hl
      simp only [Res.ok.injEq] at hl
      have h1 := Nat.le_of_ble_eq_true hb
      have h2 : n ≤ cs'.length := by
        have := congrArg List.length h
        simp only [List.length_take] at this
        omega
      rw [show Nat.ble n cs'.length = true from Nat.ble_eq_true_of_le h2, cond_true, ← h, hl.1]
theorem loadOp_cells {n : Option Nat} {v : AV} {s s' : St} {l : List AV} {u : AV} {t : St} (h1 : cellsAt s n v = some l) (h2 : cellsAt s' n v = some l) (hl : loadOp E s .ok n v = .ok u t) : loadOp E s' .ok n v = .ok u s' := by
  unfold cellsAt at h1 h2
  cases v <;> simp only [cellsOf] at h1 h2 <;> try cases h1
  case vptr cs => exact loadV_cells hE rfl hl
  case ref a off =>
    simp only [loadOp] at hl ⊢
    cases hg : s.get a with
    | none => rw [hg] at h1; cases h1
    | some o =>
      rw [hg] at h1 hl
      cases o <;> try cases h1
      rename_i cs
      cases hg' : s'.get a with
      | none => rw [hg'] at h2; cases h2
      | some o' =>
        rw [hg'] at h2
        cases o' <;> try cases h2
        rename_i cs'
        simp only [Option.map_some, Option.some.injEq] at h2
        exact loadV_cells hE h2.symm hl
theorem leaves_cells {a b : AOp} (h : leaves a b = true) {g : Nat → AV} {s s' : St} {v : AV} (hb : stepOp E g s .ok .panic b = .ok v s') : ∃ n x, a = .load n x ∧ (opnd E.glob g x = .dead ∨ ∃ l, cellsAt s n (opnd E.glob g x) = some l ∧ cellsAt s' n (opnd E.glob g x) = some l) := by
  unfold leaves at h
  split at h
  · rename_i n x
    refine ⟨n, x, rfl, ?_⟩
    have key : ∀ (ks : List (Option Nat × AOpd)), (ks.any fun y => sameN n y.1 && x.same y.2) = true → (∀ y, y ∈ ks.map (fun x => (x.1, opnd E.glob g x.2)) → ∃ l, cellsAt s y.1 y.2 = some l ∧ cellsAt s' y.1 y.2 = some l) → opnd E.glob g x = .dead ∨ ∃ l, cellsAt s n (opnd E.glob g x) = some l ∧ cellsAt s' n (opnd E.glob g x) = some l := fun ks h1 h2 => by
      obtain ⟨y, hy, hy'⟩ := List.any_eq_true.1 h1
      simp only [Bool.and_eq_true] at hy'
      rcases AOpd.same_eq hy'.2 E.glob g with e | e
      · exact .inl e
      rw [sameN_eq hy'.1, e]
      exact .inr (h2 _ (List.mem_map.2 ⟨y, hy, rfl⟩))
    split at h
    · rename_i ks f args
      simp only [stepOp, hE, Force.not] at hb
      exact key ks h (callCV_ok hE hb).2
    · rename_i ks f args
      simp only [stepOp] at hb
      unfold callFCV at hb
      split at hb
      · simp only [hE, Force.not] at hb
        exact key ks h (callCV_ok hE hb).2
      · cases hb
    · cases h
  · cases h
/-- What is loaded is the same before and behind an operation that leaves it. -/
theorem eff_leaves {a b : AOper} (h : leaves a.op b.op = true) {g : Nat → AV} {s s' : St} {v : AV} (hb : eff E b g s = some (v, s')) {u : AV} : eff E a g s = some (u, s) ↔ eff E a g s' = some (u, s') := by
  unfold eff at hb
  cases hw : wantedF b.guard g with
  | none => rw [hw] at hb; cases hb
  | some w =>
    rw [hw] at hb
    cases w with
    | false => simp only [Option.some.injEq, Prod.mk.injEq] at hb; rw [hb.2]
    | true =>
      simp only at hb
      split at hb
      · rename_i v' s'' hst
        simp only [Option.some.injEq, Prod.mk.injEq] at hb
        rw [hb.2] at hst
        obtain ⟨n, x, ha, hor⟩ := leaves_cells hE h hst
        unfold eff
        cases hwa : wantedF a.guard g with
        | none => simp
        | some w =>
          cases w with
          | false => simp
          | true =>
            simp only [ha, stepOp]
            rcases hor with e | ⟨l, h1, h2⟩
            · rw [e]; simp [loadOp]
            constructor
            · intro hq
              split at hq
              · rename_i hst'
                simp only [Option.some.injEq, Prod.mk.injEq] at hq
                rw [loadOp_cells hE h1 h2 hst', hq.1]
              · cases hq
            · intro hq
              split at hq
              · rename_i hst'
                simp only [Option.some.injEq, Prod.mk.injEq] at hq
                rw [loadOp_cells hE h2 h1 hst', hq.1]
              · cases hq
      · cases hb
theorem leaves_cls {a b : AOp} (h : leaves a b = true) : a.cls = 1 := by
  unfold leaves at h
  split at h
  · rfl
  · cases h

theorem run_swap {a b : AOper} (hi : indep a b = true) {rest : List AOper} {g : Nat → AV} {s : St} {r : (Nat → AV) × St} (h : runF E (a :: b :: rest) g s = some r) : runF E (b :: a :: rest) g s = some r := by
  simp only [indep, Bool.and_eq_true, Bool.or_eq_true] at hi
  obtain ⟨⟨⟨h1, h2⟩, h3⟩, h4⟩ := hi
  have d1 : ∀ n, a.dst = some n → n ∉ b.looks := fun n hn => by rw [hn] at h1; simpa using h1
  have d2 : ∀ n, b.dst = some n → n ∉ a.looks := fun n hn => by rw [hn] at h2; simpa using h2
  have d3 : ∀ n m, a.dst = some n → b.dst = some m → n ≠ m := fun n m hn hm e => by
    rw [hn, hm, e] at h3
    simp at h3
  simp only [runF] at h ⊢
  cases ha : eff E a g s with
  | none => rw [ha] at h; cases h
  | some p =>
    obtain ⟨va, s1⟩ := p
    rw [ha] at h
    simp only [Option.bind_some] at h
    cases hb : eff E b (upd g a.dst va) s1 with
    | none => rw [hb] at h; cases h
    | some q =>
      obtain ⟨vb, s2⟩ := q
      rw [hb] at h
      simp only [Option.bind_some] at h
      rw [eff_upd d1] at hb
      have key : ∃ S, eff E b g s = some (vb, S) ∧ eff E a g S = some (va, s2) := by
        by_cases hc : a.op.cls = 0
        · refine ⟨s2, ?_⟩
          obtain ⟨e1, e2⟩ := eff_free hE hc ha
          subst e1
          exact ⟨hb, e2 s2 (eff_depth hE hb)⟩
        · by_cases hc2 : b.op.cls = 0
          · refine ⟨s, ?_⟩
            obtain ⟨e1, e2⟩ := eff_free hE hc2 hb
            subst e1
            exact ⟨e2 s (eff_depth hE ha).symm, ha⟩
          · rcases h4 with (((h4 | h4) | h4) | h4) | h4
            · exact absurd (Nat.eq_of_beq_eq_true h4) hc
            · exact absurd (Nat.eq_of_beq_eq_true h4) hc2
            · have e1 := eff_reads hE (Nat.eq_of_beq_eq_true h4.1) ha
              subst e1
              have e2 := eff_reads hE (Nat.eq_of_beq_eq_true h4.2) hb
              subst e2
              exact ⟨_, hb, ha⟩
            · have e1 := eff_reads hE (leaves_cls hE h4) ha
              subst e1
              exact ⟨s2, hb, (eff_leaves hE h4 hb).1 ha⟩
            · have e2 := eff_reads hE (leaves_cls hE h4) hb
              subst e2
              exact ⟨s, (eff_leaves hE h4 ha).2 hb, ha⟩
      obtain ⟨S, key1, key2⟩ := key
      rw [key1]
      simp only [Option.bind_some]
      rw [eff_upd d2, key2]
      simp only [Option.bind_some]
      rw [← upd_comm d3]
      exact h

theorem run_first {o : AOper} : ∀ (pre : List AOper) {post : List AOper} {g : Nat → AV} {s : St} {r : (Nat → AV) × St}, (∀ a, a ∈ pre → indep a o = true) → runF E (pre ++ o :: post) g s = some r → runF E (o :: (pre ++ post)) g s = some r
  | [], _, _, _, _, _, h => h
  | a :: pre, post, g, s, r, hi, h => by
    refine run_swap hE (hi a List.mem_cons_self) ?_
    simp only [List.cons_append, runF] at h ⊢
    cases ha : eff E a g s with
    | none => rw [ha] at h; cases h
    | some p =>
      rw [ha] at h
      simp only [Option.bind_some] at h ⊢
      exact run_first pre (fun x hx => hi x (List.mem_cons_of_mem _ hx)) h
end
end Go.Ab
