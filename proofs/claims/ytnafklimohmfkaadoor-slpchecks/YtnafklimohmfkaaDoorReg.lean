/- A region's operations one after another. -/
import Derived.Test.YtnafklimohmfkaaDoorStep3
import Derived.Test.YtnafklimohmfkaaDoorComm2
import Derived.Orders
namespace Go.Ab
set_option linter.unusedSimpArgs false
set_option linter.unusedSectionVars false

theorem setK_sound : ∀ (d n : Nat) (v : AV) (k : Tr → Res) (fr : Tr) (r : Res), Tr.setK d n v k fr = r → r ≠ .fail → ∃ fr', k fr' = r ∧ ∀ m, fr'.get m = if m = n then v else fr.get m
  | 0, n, v, k, fr, r, h, hf => absurd h.symm hf
  | d + 1, n, v, k, fr, r, h, hf => by
    have odd : ∀ m, Nat.beq (m % 2) 1 = true → ∃ q, m = 2 * q + 1 := fun m h => ⟨m / 2, by have := Nat.eq_of_beq_eq_true h; omega⟩
    have even : ∀ m, Nat.beq (m % 2) 1 = false → Nat.beq m 0 = false → ∃ q, m = 2 * q + 2 := fun m h h' => ⟨(m - 2) / 2, by
      have h1 : m % 2 ≠ 1 := fun e => by rw [e] at h; simp at h
      have h2 : m ≠ 0 := fun e => by rw [e] at h'; simp at h'
      omega⟩
    have getO : ∀ (l : Tr) (x : AV) (r : Tr) (q : Nat), (Tr.n l x r).get (2 * q + 1) = l.get q := fun l x r q => by
      have h1 : Nat.beq (2 * q + 1) 0 = false := by rfl
      have h2 : Nat.beq ((2 * q + 1) % 2) 1 = true := by rw [show (2 * q + 1) % 2 = 1 by omega]; rfl
      simp only [Tr.get, h1, h2, cond_false, cond_true]
      congr 1
      omega
    have getE : ∀ (l : Tr) (x : AV) (r : Tr) (q : Nat), (Tr.n l x r).get (2 * q + 2) = r.get q := fun l x r q => by
      have h1 : Nat.beq (2 * q + 2) 0 = false := by rfl
      have h2 : Nat.beq ((2 * q + 2) % 2) 1 = false := by rw [show (2 * q + 2) % 2 = 0 by omega]; rfl
      simp only [Tr.get, h1, h2, cond_false]
      congr 1
      omega
    have get0 : ∀ (l : Tr) (x : AV) (r : Tr), (Tr.n l x r).get 0 = x := fun l x r => rfl
    have cases3 : ∀ m, m = 0 ∨ (∃ q, m = 2 * q + 1) ∨ ∃ q, m = 2 * q + 2 := fun m => by
      by_cases h0 : m = 0
      · exact .inl h0
      · by_cases h1 : m % 2 = 1
        · exact .inr (.inl ⟨m / 2, by omega⟩)
        · exact .inr (.inr ⟨(m - 2) / 2, by omega⟩)
    cases fr with
    | e =>
      simp only [Tr.setK] at h
      cases h0 : Nat.beq n 0 with
      | true =>
        rw [h0, cond_true] at h
        have := Nat.eq_of_beq_eq_true h0
        subst this
        refine ⟨_, h, fun m => ?_⟩
        rcases cases3 m with rfl | ⟨q, rfl⟩ | ⟨q, rfl⟩
        · simp [get0]
        · rw [getO]; simp [Tr.get]
        · rw [getE]; simp [Tr.get]
      | false =>
        rw [h0, cond_false] at h
        cases h1 : Nat.beq (n % 2) 1 with
        | true =>
          rw [h1, cond_true] at h
          obtain ⟨p, rfl⟩ := odd n h1
          obtain ⟨l', e, hl⟩ := setK_sound d _ v _ _ r h hf
          refine ⟨_, e, fun m => ?_⟩
          rcases cases3 m with rfl | ⟨q, rfl⟩ | ⟨q, rfl⟩
          · simp [get0, Tr.get]
          · rw [getO, hl q]
            have e1 : (2 * p + 1 - 1) / 2 = p := by omega
            have e2 : 2 * q + 1 = 2 * p + 1 ↔ q = p := by omega
            simp only [e1, e2]
            simp [Tr.get]
          · rw [getE, if_neg (by omega)]; simp [Tr.get]
        | false =>
          rw [h1, cond_false] at h
          obtain ⟨p, rfl⟩ := even n h1 h0
          obtain ⟨l', e, hl⟩ := setK_sound d _ v _ _ r h hf
          refine ⟨_, e, fun m => ?_⟩
          rcases cases3 m with rfl | ⟨q, rfl⟩ | ⟨q, rfl⟩
          · simp [get0, Tr.get]
          · rw [getO, if_neg (by omega)]; simp [Tr.get]
          · rw [getE, hl q]
            have e1 : (2 * p + 2 - 1) / 2 = p := by omega
            have e2 : 2 * q + 2 = 2 * p + 2 ↔ q = p := by omega
            simp only [e1, e2]
            simp [Tr.get]
    | n l x rr =>
      simp only [Tr.setK] at h
      cases h0 : Nat.beq n 0 with
      | true =>
        rw [h0, cond_true] at h
        have := Nat.eq_of_beq_eq_true h0
        subst this
        refine ⟨_, h, fun m => ?_⟩
        rcases cases3 m with rfl | ⟨q, rfl⟩ | ⟨q, rfl⟩
        · simp [get0]
        · rw [getO, getO]; simp
        · rw [getE, getE]; simp
      | false =>
        rw [h0, cond_false] at h
        cases h1 : Nat.beq (n % 2) 1 with
        | true =>
          rw [h1, cond_true] at h
          obtain ⟨p, rfl⟩ := odd n h1
          obtain ⟨l', e, hl⟩ := setK_sound d _ v _ _ r h hf
          refine ⟨_, e, fun m => ?_⟩
          rcases cases3 m with rfl | ⟨q, rfl⟩ | ⟨q, rfl⟩
          · simp [get0]
          · rw [getO, getO, hl q]
            have e1 : (2 * p + 1 - 1) / 2 = p := by omega
            have e2 : 2 * q + 1 = 2 * p + 1 ↔ q = p := by omega
            simp only [e1, e2]
          · rw [getE, getE, if_neg (by omega)]
        | false =>
          rw [h1, cond_false] at h
          obtain ⟨p, rfl⟩ := even n h1 h0
          obtain ⟨l', e, hl⟩ := setK_sound d _ v _ _ r h hf
          refine ⟨_, e, fun m => ?_⟩
          rcases cases3 m with rfl | ⟨q, rfl⟩ | ⟨q, rfl⟩
          · simp [get0]
          · rw [getO, getO, if_neg (by omega)]
          · rw [getE, getE, hl q]
            have e1 : (2 * p + 2 - 1) / 2 = p := by omega
            have e2 : 2 * q + 2 = 2 * p + 2 ↔ q = p := by omega
            simp only [e1, e2]

def okDst (nt : Nat) : Option Nat → Option Nat → Bool
  | none, none => true
  | some a, some b => Nat.beq a b && Nat.blt a nt
  | _, _ => false
def okGuard (ops : Array Oper) : Option (Nat × Bool) → Option (Nat × Bool) → Bool
  | none, none => true
  | some (t, w), some (j, w') =>
    match (ops[j]?).bind (·.dst) with
    | some d => Nat.beq d t && w == w'
    | none => false
  | _, _ => false
def okOper (T : TT) (nt : Nat) (ops : Array Oper) (ao : AOper) (o : Oper) : Bool := okDst nt ao.dst o.dst && okGuard ops ao.guard o.guard && okOp T ao.op o.op

/-- The running frame and the world, abstract and machine's. -/
structure Run (κ : Kap) (s : St) (w : World) (g : Nat → AV) (a : Act) (nt : Nat) (G : Nat → AV) : Prop where
  sim : Sim κ s w
  fr : FR κ s g a
  defers : a.defers = []
  size : a.tmps.size = nt
  glob : GOK κ G

theorem putK_sound {fr : Tr} {d : Option Nat} {v : AV} {k : Tr → Res} {r : Res} (hr : putK fr d v k = r) (hf : r ≠ .fail) : ∃ fr', k fr' = r ∧ fr'.get = upd fr.get d v := by
  cases d with
  | none => exact ⟨fr, hr, rfl⟩
  | some n =>
    obtain ⟨fr', h1, h2⟩ := setK_sound 12 n v k fr r hr hf
    exact ⟨fr', h1, funext h2⟩

theorem wantedK_sound {g : Option (Nat × Bool)} {fr : Tr} {k : Bool → Res} {r : Res} (hr : wantedK g fr k = r) (hf : r ≠ .fail) : ∃ b, wantedF g fr.get = some b ∧ k b = r := by
  cases g with
  | none => exact ⟨true, rfl, hr⟩
  | some p =>
    obtain ⟨t, w⟩ := p
    simp only [wantedK] at hr
    simp only [wantedF]
    cases hv : fr.get t <;> rw [hv] at hr <;> simp only at hr <;> first | exact absurd hr.symm hf | exact ⟨_, rfl, hr⟩

theorem step_kp {E : Env} (hn : ∀ f args s v s', E.call f args s ≠ .panic v s') {g : Nat → AV} {s : St} {k kp kp' : AV → St → Res} (op : AOp) : stepOp E g s k kp op = stepOp E g s k kp' op := by
  have hc : ∀ f args, callV E s k kp f args = callV E s k kp' f args := fun f args => by
    unfold callV
    cases h : E.call f args s with
    | panic v s' => exact absurd h (hn _ _ _ _ _)
    | _ => rfl
  have hc' : ∀ (k : AV → St → Res) f args, callV E s k kp f args = callV E s k kp' f args := fun k f args => by
    unfold callV
    cases h : E.call f args s with
    | panic v s' => exact absurd h (hn _ _ _ _ _)
    | _ => rfl
  cases op <;> simp only [stepOp]
  case call => simp only [hc]
  case callV => unfold callFV; simp only [hc]
  case callC => simp only [callCV]; congr; funext args; exact hc' _ _ _
  case callVC => unfold callFCV callCV; congr; funext f caps; congr; funext args; exact hc' _ _ _
theorem step_nopanic {E : Env} (hE : E.F = .not) (hn : ∀ f args s v s', E.call f args s ≠ .panic v s') {g : Nat → AV} {s s' : St} {v : AV} (op : AOp) : stepOp E g s .ok .panic op ≠ .panic v s' := fun h => by
  have h1 := stepOp_bind hE g s .ok .panic op
  have h2 := stepOp_bind hE g s .ok (fun _ _ => .fail) op
  rw [h] at h2
  rw [← step_kp hn (kp := .panic) op, h] at h2
  cases h2

/-- The evaluator's run of a list of operations. -/
theorem runOps_runF {E : Env} (hE : E.F = .not) (hn : ∀ f args s v s', E.call f args s ≠ .panic v s') {fin : Tr → St → Res} {pan : AV → Tr → St → Res} {r : Res} (hf : r ≠ .fail) : ∀ (aos : List AOper) {fr : Tr} {s : St}, runOps E aos fr s fin pan = r → ∃ fr' s', runF E aos fr.get s = some (fr'.get, s') ∧ fin fr' s' = r
  | [], fr, s, h => ⟨fr, s, rfl, h⟩
  | o :: os, fr, s, h => by
    simp only [runOps] at h
    obtain ⟨b, h1, h2⟩ := wantedK_sound h hf
    cases b with
    | false =>
      simp only [cond_false] at h2
      obtain ⟨fr', h3, h4⟩ := putK_sound h2 hf
      obtain ⟨fr'', s', h5, h6⟩ := runOps_runF hE hn hf os h3
      exact ⟨fr'', s', by simp only [runF, eff, h1, Option.bind_some, ← h4, h5], h6⟩
    | true =>
      simp only [cond_true] at h2
      rw [stepOp_bind hE] at h2
      cases hst : stepOp E fr.get s .ok .panic o.op with
      | fail => rw [hst] at h2; exact absurd h2.symm hf
      | panic v s' => exact absurd hst (step_nopanic hE hn o.op)
      | ok v s' =>
        rw [hst] at h2
        simp only [Res.bind] at h2
        obtain ⟨fr', h3, h4⟩ := putK_sound h2 hf
        obtain ⟨fr'', s'', h5, h6⟩ := runOps_runF hE hn hf os h3
        exact ⟨fr'', s'', by simp only [runF, eff, h1, hst, Option.bind_some, ← h4, h5], h6⟩

section
variable {P : Program} {κ : Kap} {s : St} {w : World} {g : Nat → AV} {a : Act} {nt : Nat} {G : Nat → AV}

theorem Run.put (h : Run κ s w g a nt G) {κ' : Kap} {s' : St} {w' : World} (he : Ext κ s w κ' s' w') (hs : Sim κ' s' w') {v : AV} {x : Value} (hx : VR κ' (s.depth + 1) (v.pub s.depth) x) {d d' : Option Nat} (hd : okDst nt d d' = true) : Run κ' s' w' (upd g d v) (a.put d' x) nt G := by
  have hfr := h.fr.ext he
  cases d with
  | none =>
    cases d' with
    | none => exact ⟨hs, hfr, h.defers, h.size, h.glob.mono he.k⟩
    | some b => simp [okDst] at hd
  | some n =>
    cases d' with
    | none => simp [okDst] at hd
    | some b =>
      simp only [okDst, Bool.and_eq_true] at hd
      have e := Nat.eq_of_beq_eq_true hd.1
      subst e
      have hn : n < a.tmps.size := by rw [h.size]; have := hd.2; rw [Nat.blt_eq] at this; exact this
      refine ⟨hs, fun t => ?_, h.defers, ?_, h.glob.mono he.k⟩
      · simp only [upd]
        by_cases ht : t = n
        · subst ht
          rw [if_pos rfl, he.depth]
          simp only [Act.put, Array.getD_eq_getD_getElem?, Array.getElem?_setIfInBounds_self_of_lt hn, Option.getD_some]
          exact hx
        · rw [if_neg ht]
          have := hfr t
          simp only [Act.put, Array.getD_eq_getD_getElem?, Array.getElem?_setIfInBounds_ne (Ne.symm ht)] at this ⊢
          exact this
      · simp [Act.put, h.size]

theorem Run.skip (h : Run κ s w g a nt G) {d d' : Option Nat} (hd : okDst nt d d' = true) : Run κ s w (upd g d (.tup [])) (a.put d' undef) nt G :=
  h.put (.refl _ _ _) h.sim (v := .tup []) (x := undef) (.tup [] [] rfl (fun j c x hc => by simp at hc)) hd

/-- Is the operation carried out? The two sides agree. -/
theorem Run.wanted (h : Run κ s w g a nt G) {ops : Array Oper} {gd : Option (Nat × Bool)} {o : Oper} (hg : okGuard ops gd o.guard = true) {b : Bool} (hb : wantedF gd g = some b) : Region.wanted o (yielded ops a.tmps) = b := by
  unfold Region.wanted
  cases gd with
  | none =>
    cases hog : o.guard with
    | none => simpa [wantedF] using hb
    | some p => rw [hog] at hg; simp [okGuard] at hg
  | some p =>
    obtain ⟨t, want⟩ := p
    cases hog : o.guard with
    | none => rw [hog] at hg; simp [okGuard] at hg
    | some q =>
      obtain ⟨j, want'⟩ := q
      rw [hog] at hg
      simp only [okGuard] at hg
      split at hg
      · rename_i d hd
        simp only [Bool.and_eq_true, beq_iff_eq] at hg
        have e := Nat.eq_of_beq_eq_true hg.1
        subst e
        obtain rfl := hg.2
        have hx := h.fr d
        simp only [wantedF] at hb
        simp only [yielded, hd, Option.bind_some]
        cases hv : g d <;> rw [hv] at hb hx <;> simp only [Option.some.injEq, reduceCtorEq] at hb
        · rename_i b'
          have hb' := VR.bool_inv (b := b') hx
          have : a.tmps[d]? = some (.bool b') := by
            rw [Array.getD_eq_getD_getElem?] at hb'
            cases hq : a.tmps[d]? with
            | none => rw [hq] at hb'; cases hb'
            | some y => rw [hq] at hb'; simp only [Option.getD_some] at hb'; rw [hb']
          rw [this]
          simpa using hb
        · rename_i vs
          obtain ⟨xs, hb', _⟩ := VR.tup_inv (cs := vs) hx
          have : ∀ b, a.tmps[d]? ≠ some (.bool b) := fun b hq => by
            rw [Array.getD_eq_getD_getElem?, hq] at hb'
            cases hb'
          split
          · rename_i b' hq; exact absurd hq (this b')
          · simpa using hb
      · cases hg

variable {T : TT} (hT : T.OK P) {E : Env} (hE : E.F = .not) (hC : CallOK P E)
include hT hE hC

/-- One operation. -/
theorem oper_sound (h : Run κ s w g a nt E.glob) {ops : Array Oper} {ao : AOper} {i : Nat} {o : Oper} (hi : ops[i]? = some o) (hok : okOper T nt ops ao o = true) {v : AV} {s' : St} (hr : eff E ao g s = some (v, s'))
    {K : Act → World → Prop} {Q : Exit → Act → World → Prop} (hK : ∀ κ' w' a', Ext κ s w κ' s' w' → Run κ' s' w' (upd g ao.dst v) a' nt E.glob → K a' w') : wpOp P ops Q i K a w := by
  unfold wpOp
  simp only [hi]
  simp only [okOper, Bool.and_eq_true] at hok
  unfold eff at hr
  cases hw : wantedF ao.guard g with
  | none => rw [hw] at hr; cases hr
  | some b =>
    rw [hw] at hr
    rw [h.wanted hok.1.2 hw]
    cases b with
    | false =>
      simp only [Option.some.injEq, Prod.mk.injEq] at hr
      obtain ⟨rfl, rfl⟩ := hr
      simp only [Bool.false_eq_true, ↓reduceIte]
      exact hK κ w _ (.refl _ _ _) (h.skip hok.1.1)
    | true =>
      simp only at hr
      simp only [↓reduceIte]
      refine .inl ?_
      cases hst : stepOp E g s .ok .panic ao.op with
      | fail => rw [hst] at hr; cases hr
      | panic v s' => rw [hst] at hr; cases hr
      | ok v' s'' =>
        rw [hst] at hr
        simp only [Option.some.injEq, Prod.mk.injEq] at hr
        obtain ⟨rfl, rfl⟩ := hr
        obtain ⟨v1, s1, hk, hd⟩ := step_sound (ty := o.type) hT h.sim hE hC h.fr h.glob (by simp) hok.2 hst
        simp only [Res.ok.injEq] at hk
        obtain ⟨rfl, rfl⟩ := hk
        have eo : ∀ (R : Result Next), (∀ dst pos after guard, (execOp a.eval ⟨dst, o.op, o.type, pos, after, guard⟩).run P w = R) → (execOp a.eval o).run P w = R := fun R h => h o.dst o.pos o.after o.guard
        unfold Oper.wp
        rcases hd with ⟨x, κ', w', hx | ⟨hx, rfl⟩, he, hs', hv⟩ | ⟨f, xs, hx, hc⟩
        · rw [eo _ hx, Oper.upon_value]
          exact hK κ' w' _ he (h.put he hs' hv hok.1.1)
        · rw [eo _ hx, Oper.upon_skip]
          exact hK κ' w' _ he (h.put he hs' hv hok.1.1)
        · rw [eo _ hx, Oper.upon_enter]
          refine hc.mono fun e w' ⟨x, hex, κ', he, hs', hv⟩ => ?_
          subst hex
          exact hK κ' w' _ he (h.put he hs' hv hok.1.1)

theorem ops_sound {ops : Array Oper} {Q : Exit → Act → World → Prop} {g' : Nat → AV} {s' : St} : ∀ (l : List Nat) (aos : List AOper) {κ : Kap} {s : St} {w : World} {g : Nat → AV} {a : Act}, l.length = aos.length →
    (∀ (j i : Nat) (ao : AOper), l[j]? = some i → aos[j]? = some ao → ∃ o, ops[i]? = some o ∧ okOper T nt ops ao o = true) → Run κ s w g a nt E.glob → runF E aos g s = some (g', s') →
    (∀ κ' w' a', Ext κ s w κ' s' w' → Run κ' s' w' g' a' nt E.glob → Q .normal a' w') → wpOps P ops Q l a w
  | [], [], κ, s, w, g, a, _, _, h, hr, hQ => by
    simp only [runF, Option.some.injEq, Prod.mk.injEq] at hr
    obtain ⟨rfl, rfl⟩ := hr
    exact hQ κ w a (.refl _ _ _) h
  | [], _ :: _, _, _, _, _, _, hl, _, _, _, _ => by simp at hl
  | _ :: _, [], _, _, _, _, _, hl, _, _, _, _ => by simp at hl
  | i :: l, ao :: aos, κ, s, w, g, a, hl, hok, h, hr, hQ => by
    obtain ⟨o, hi, hoo⟩ := hok 0 i ao rfl rfl
    rw [wpOps_cons]
    simp only [runF] at hr
    cases he : eff E ao g s with
    | none => rw [he] at hr; cases hr
    | some p =>
      rw [he] at hr
      refine oper_sound hT hE hC h hi hoo he fun κ' w' a' he' h' => ?_
      exact ops_sound l aos (by simpa using hl) (fun j i ao h1 h2 => hok (j + 1) i ao (by simpa using h1) (by simpa using h2)) h' hr
        fun κ'' w'' a'' he'' h'' => hQ κ'' w'' a'' (he'.trans he'') h''
end
end Go.Ab
