/- One operation of a region, abstract and machine's: the test suffices. -/
import Derived.Test.YtnafklimohmfkaaDoorStep
namespace Go.Ab
set_option linter.unusedSimpArgs false

theorem VR.pub_eq {κ : Kap} {D : Nat} {v : AV} {x : Value} (h : VR κ D v x) (d : Nat) : v.pub d = v := by
  cases h <;> try rfl
  rename_i sz es g a cap vals hg _ _ _ _ _ _
  cases g <;> try rfl
  rename_i l
  cases l with
  | l i => exact absurd hg (by simp [GrOK])
  | g d i => rfl

theorem run_fold {P : Program} {w : World} {κ : Kap} {D : Nat} (f : AV → AV → Option AV) (g : Value → Value → Sem Value)
    (hfg : ∀ x y z X Y, f x y = some z → VR κ D x X → VR κ D y Y → ∃ Z, (g X Y).run P w = .ok Z w ∧ VR κ D z Z) : ∀ (ys : List AV) (Ys : List Value) (x v : AV) (X : Value), foldV f x ys = some v → VR κ D x X → VRs κ D ys Ys →
      ∃ V, (Ys.foldlM g X).run P w = .ok V w ∧ VR κ D v V
  | [], Ys, x, v, X, h, hx, hys => by
    simp only [foldV, Option.some.injEq] at h
    have : Ys = [] := List.eq_nil_of_length_eq_zero hys.1
    subst this
    subst h
    exact ⟨X, by simp, hx⟩
  | y :: ys, Ys, x, v, X, h, hx, hys => by
    cases Ys with
    | nil => exact absurd hys.1 (by simp)
    | cons Y Ys =>
      simp only [foldV] at h
      cases hz : f x y with
      | none => rw [hz] at h; cases h
      | some z =>
        rw [hz] at h
        simp only [Option.bind_some] at h
        obtain ⟨Z, h1, h2⟩ := hfg x y z X Y hz hx (hys.2 0 y Y rfl rfl)
        obtain ⟨V, h3, h4⟩ := run_fold f g hfg ys Ys z v Z h h2 ⟨by have := hys.1; simpa using this, fun j c y hc hy => hys.2 (j + 1) c y (by simpa using hc) (by simpa using hy)⟩
        exact ⟨V, by simp [List.foldlM_cons, h1, h3], h4⟩

section
variable {P : Program} {ty : TypeId} {κ : Kap} {s : St} {w : World}

theorem min2_run (x y z : AV) (X Y : Value) (h : min2 x y = some z) (hx : VR κ (s.depth + 1) x X) (hy : VR κ (s.depth + 1) y Y) : ∃ Z, (Builtin.min2 X Y).run P w = .ok Z w ∧ VR κ (s.depth + 1) z Z := by
  cases x <;> cases y <;> simp [min2] at h
  subst h
  rw [hx.int_inv, hy.int_inv]
  exact ⟨_, by simp only [Builtin.min2]; rfl, .int _ _⟩
theorem max2_run (x y z : AV) (X Y : Value) (h : max2 x y = some z) (hx : VR κ (s.depth + 1) x X) (hy : VR κ (s.depth + 1) y Y) : ∃ Z, (Builtin.max2 X Y).run P w = .ok Z w ∧ VR κ (s.depth + 1) z Z := by
  cases x <;> cases y <;> simp [max2] at h
  subst h
  rw [hx.int_inv, hy.int_inv]
  exact ⟨_, by simp only [Builtin.max2]; rfl, .int _ _⟩

theorem opnds_VRs {fr : Nat → AV} {a : Act} {G : Nat → AV} (hf : FR κ s fr a) (hG : GOK κ G) : ∀ (xs : List AOpd) (ys : List Operand), okOpds xs ys = true → VRs κ (s.depth + 1) (xs.map fun x => (opnd G fr x).pub s.depth) (ys.map a.eval)
  | [], [], _ => .nil _ _
  | [], _ :: _, h => by simp [okOpds] at h
  | _ :: _, [], h => by simp [okOpds] at h
  | x :: xs, y :: ys, h => by
    simp only [okOpds, Bool.and_eq_true] at h
    exact .cons (opnd_VR hf hG h.1) (opnds_VRs hf hG xs ys h.2)

/-- What a call gives. -/
def After (κ : Kap) (s : St) (w : World) (v : AV) (s' : St) (x : Value) (w' : World) : Prop := ∃ κ', Ext κ s w κ' s' w' ∧ Sim κ' s' w' ∧ VR κ' (s.depth + 1) (v.pub s.depth) x

/-- The machine's operation gives what the abstract one gave, at once or by a call. -/
def Does (P : Program) (o : Op) (ty : TypeId) (ρ : Operand → Value) (κ : Kap) (s : St) (w : World) (v : AV) (s' : St) : Prop :=
  Gives P o ty ρ κ s w v s' ∨ ∃ f xs, (∀ dst pos after guard, (execOp ρ ⟨dst, o, ty, pos, after, guard⟩).run P w = .ok (.enter f xs) w) ∧ Calls P f xs w fun e w' => ∃ x, e = .returned x ∧ After κ s w v s' x w'

/-- What is asked of the calls. -/
structure CallOK (P : Program) (E : Env) : Prop where
  loop : ∃ n, ∀ step keep fr s k, E.loop step keep fr s k = loopIter step keep n fr s k
  nopanic : ∀ f args s v s', E.call f args s ≠ .panic v s'
  ok : ∀ f args s v s' κ w xs, E.call f args s = .ok v s' → Sim κ s w → GOK κ E.glob → VRs κ (s.depth + 1) args xs →
    (∃ x w', (callFunc f xs.toArray).run P w = .ok (.value x) w' ∧ After κ s w v s' x w') ∨
    ((callFunc f xs.toArray).run P w = .ok (.enter f xs.toArray) w ∧ Calls P f xs.toArray w fun e w' => ∃ x, e = .returned x ∧ After κ s w v s' x w')

theorem does_of_call {E : Env} (hC : CallOK P E) (hs : Sim κ s w) (hG : GOK κ E.glob) {f : Nat} {args : List AV} {v : AV} {s' : St} {xs : List Value} {o : Op} {ρ : Operand → Value} (h : E.call f args s = .ok v s') (hx : VRs κ (s.depth + 1) args xs)
    (ho : ∀ dst pos after guard, execOp ρ ⟨dst, o, ty, pos, after, guard⟩ = callFunc f xs.toArray) : Does P o ty ρ κ s w v s' := by
  rcases hC.ok f args s v s' κ w xs h hs hG hx with ⟨x, w', h1, κ', h2, h3, h4⟩ | ⟨h1, h2⟩
  · exact .inl ⟨x, κ', w', .inl (fun dst pos after guard => by rw [ho]; exact h1), h2, h3, h4⟩
  · exact .inr ⟨f, xs.toArray, fun dst pos after guard => by rw [ho]; exact h1, h2⟩

/-- A call that has seen no mutable object, among those that there are. -/
theorem After.pure (hs : Sim κ s w) {v : AV} {s'' : St} {x : Value} {w' : World} (h : After { κ with n := fun _ => 0 } { own := [], up := [], ro := [] } w v s'' x w') (hv : v.refless = true) : After κ s w v s x w' := by
  obtain ⟨κ', h1, h2, h3⟩ := h
  have hno : ∀ b, ¬ Live { κ with n := fun _ => 0 } { own := [], up := [], ro := [] } b := fun b ⟨d, i, o, hg, _⟩ => by simp [St.get] at hg
  have hk : KLe κ { κ with F := κ'.F } (s.depth + 1) := ⟨fun a v h => h1.k.F a v h, fun _ _ => Nat.le_refl _, fun _ _ _ _ => rfl, fun _ _ _ _ _ _ h => h⟩
  refine ⟨{ κ with F := κ'.F }, ⟨hk, rfl, h1.size, h1.os, h1.tape, h1.output, fun b hb _ => h1.chg b hb (hno b), fun b hb hl => ?_, fun a ha => ?_⟩, ?_, ?_⟩
  · obtain ⟨d, i, o, hg, hb'⟩ := hl
    exact ⟨d, i, o, hg, hb'⟩
  · rcases h1.frz a ha with q | q | q
    · exact .inl q
    · exact .inr (.inl q)
    · exact absurd q (hno _)
  · refine hs.world hk rfl rfl (fun a v h => h2.froz a v h) (fun b hb => ⟨h1.chg b (hs.live_lt hb) (hno b), fun o => ?_⟩)
    show κ'.F ⟨b, o, none⟩ = κ.F ⟨b, o, none⟩
    cases hq : κ.F ⟨b, o, none⟩ with
    | some v => exact h1.k.F _ _ hq
    | none =>
      cases hq' : κ'.F ⟨b, o, none⟩ with
      | none => rfl
      | some v =>
        rcases h1.frz ⟨b, o, none⟩ (by rw [hq']; simp) with q | q | q
        · exact absurd hq q
        · exact absurd (hs.live_lt hb) (Nat.not_lt.2 q)
        · exact absurd q (hno _)
  · have h3' : VR κ' (({ own := [], up := [], ro := [] } : St).depth + 1) v x := by rw [refless_pub hv] at h3; exact h3
    rw [refless_pub hv]
    exact h3'.refless hv _ (fun _ _ h => h)

theorem does_of_callP {E : Env} (hC : CallOK P E) (hs : Sim κ s w) (hG : GOK κ E.glob) {f : Nat} {args : List AV} {v : AV} {s'' : St} {xs : List Value} {o : Op} {ρ : Operand → Value} (h : E.call f args { own := [], up := [], ro := [] } = .ok v s'') (hv : v.refless = true) (hx : VRs κ (s.depth + 1) args xs) (hr : AV.reflessL args = true)
    (ho : ∀ dst pos after guard, execOp ρ ⟨dst, o, ty, pos, after, guard⟩ = callFunc f xs.toArray) : Does P o ty ρ κ s w v s := by
  have hx' : VRs { κ with n := fun _ => 0 } (({ own := [], up := [], ro := [] } : St).depth + 1) args xs := ⟨hx.1, fun j c x hc hx0 => (hx.2 j c x hc hx0).refless (reflessL_get hr hc) _ (fun _ _ h => h)⟩
  have hG' : GOK { κ with n := fun _ => 0 } E.glob := fun n => ⟨(hG n).1.refless (hG n).2 _ (fun _ _ h => h), (hG n).2⟩
  rcases hC.ok f args _ v s'' _ w xs h hs.empty hG' hx' with ⟨x, w', h1, h2⟩ | ⟨h1, h2⟩
  · obtain ⟨κ', q1, q2, q3⟩ := h2.pure hs hv
    exact .inl ⟨x, κ', w', .inl (fun dst pos after guard => by rw [ho]; exact h1), q1, q2, q3⟩
  · exact .inr ⟨f, xs.toArray, fun dst pos after guard => by rw [ho]; exact h1, h2.mono fun e w' ⟨x, he, hA⟩ => ⟨x, he, hA.pure hs hv⟩⟩

theorem exec_call {ρ : Operand → Value} {c : Call} {f : Nat} {xs : Array Value} (hc : ∃ y, c.callee = .value y ∧ ρ y = .func (.func f) #[] xs) : ∀ dst pos after guard, execOp ρ ⟨dst, .call c, ty, pos, after, guard⟩ = callFunc f (c.args.toList.map ρ ++ xs.toList).toArray := by
  intro dst pos after guard
  obtain ⟨y, hy, e⟩ := hc
  have h1 : resolve ρ c ty = (Pure.pure { target := .fn (.func f) xs, args := #[] ++ c.args.map ρ } : Sem Deferred) := by
    simp only [resolve, hy, e, Deferred.ofValue]
  have h2 : (#[] ++ c.args.map ρ) ++ xs = (c.args.toList.map ρ ++ xs.toList).toArray := by
    apply Array.ext'
    simp
  show (do let d ← resolve ρ c ty; invoke d.target d.args) = _
  rw [h1]
  show invoke (.fn (.func f) xs) (#[] ++ c.args.map ρ) = _
  simp only [invoke, h2]
end
end Go.Ab
