/- A function's call, abstract and machine's. -/
import Derived.Test.YtnafklimohmfkaaDoorExec
namespace Go.Ab
set_option linter.unusedSimpArgs false
set_option linter.unusedSectionVars false

/-- The result is no panic. -/
def NP (r : Res) : Prop := ∀ v s, r ≠ .panic v s
theorem NP.bind {r : Res} {k kp : AV → St → Res} (h1 : ∀ v s, NP (k v s)) (h2 : ∀ v s, NP (kp v s)) : NP (Res.bind r k kp) := by
  cases r with
  | fail => intro v s h; cases h
  | ok v s => exact h1 v s
  | panic v s => exact h2 v s
theorem NP.fail : NP .fail := fun _ _ h => by cases h
theorem NP.setK : ∀ (d n : Nat) (v : AV) (k : Tr → Res) (fr : Tr), (∀ fr, NP (k fr)) → NP (Tr.setK d n v k fr)
  | 0, n, v, k, fr, h => NP.fail
  | d + 1, n, v, k, .e, h => by
    simp only [Tr.setK]
    cases Nat.beq n 0
    · cases Nat.beq (n % 2) 1
      · exact NP.setK d _ v _ _ (fun _ => h _)
      · exact NP.setK d _ v _ _ (fun _ => h _)
    · exact h _
  | d + 1, n, v, k, .n l x r, h => by
    simp only [Tr.setK]
    cases Nat.beq n 0
    · cases Nat.beq (n % 2) 1
      · exact NP.setK d _ v _ _ (fun _ => h _)
      · exact NP.setK d _ v _ _ (fun _ => h _)
    · exact h _
theorem NP.putK {fr : Tr} {d : Option Nat} {v : AV} {k : Tr → Res} (h : ∀ fr, NP (k fr)) : NP (putK fr d v k) := by
  cases d with
  | none => exact h fr
  | some n => exact NP.setK 12 n v k fr h
theorem NP.runOps {E : Env} (hE : E.F = .not) : ∀ (aos : List AOper) {fr : Tr} {s : St} {fin : Tr → St → Res} {pan : AV → Tr → St → Res}, (∀ fr s, NP (fin fr s)) → (∀ v fr s, NP (pan v fr s)) → NP (runOps E aos fr s fin pan)
  | [], _, _, _, _, h, _ => h _ _
  | o :: os, fr, s, fin, pan, h, hp => by
    simp only [Ab.runOps]
    have key : ∀ w : Bool, NP (bif w then stepOp E fr.get s (fun v s => Ab.putK fr o.dst v fun fr => Ab.runOps E os fr s fin pan) (fun v s => pan v fr s) o.op else Ab.putK fr o.dst (.tup []) fun fr => Ab.runOps E os fr s fin pan) := fun w => by
      cases w with
      | false => exact NP.putK (fun fr => NP.runOps hE os h hp)
      | true =>
        simp only [cond_true]
        rw [stepOp_bind hE]
        exact NP.bind (fun v s => NP.putK (fun fr => NP.runOps hE os h hp)) (fun v s => hp _ _ _)
    unfold wantedK
    split
    · exact key _
    · split
      · exact key _
      · exact key _
      · exact NP.fail
theorem NP.exec {E : Env} (hE : E.F = .not) (hL : ∃ n, ∀ step keep fr s k, E.loop step keep fr s k = loopIter step keep n fr s k) : ∀ (c : ACode) {fr : Tr} {s : St} {k : AX → Tr → St → Res}, (∀ x fr s, NP (k x fr s)) → NP (exec E c fr s k) := by
  intro c
  induction c with
  | skip => exact fun h => h _ _ _
  | region chk ops =>
    intro fr s k h
    cases chk with
    | none => exact NP.runOps hE ops (fun _ _ => h _ _ _) (fun _ _ _ => NP.fail)
    | some chk =>
      simp only [Ab.exec]
      cases chk.all (apartB E.glob fr.get)
      · exact NP.fail
      · exact NP.runOps hE ops (fun _ _ => h _ _ _) (fun _ _ _ => NP.fail)
  | seq a b iha ihb =>
    intro fr s k h
    simp only [Ab.exec]
    refine iha fun x fr s => ?_
    cases x with
    | norm => exact ihb h
    | _ => exact h _ _ _
  | mask m a ih =>
    intro fr s k h
    simp only [Ab.exec]
    obtain ⟨fr', e, _⟩ := maskK_sound m (fun fr => Ab.exec E a fr s k) fr
    rw [e]
    exact ih h
  | cond c a b iha ihb =>
    intro fr s k h
    simp only [Ab.exec]
    split
    · rename_i t _
      cases t
      · exact ihb h
      · exact iha h
    · exact NP.fail
  | block id c ih =>
    intro fr s k h
    simp only [Ab.exec]
    refine ih fun x fr s => ?_
    cases x with
    | exit j => simp only [blockK]; cases Nat.beq j id <;> exact h _ _ _
    | _ => exact h _ _ _
  | loop keep c ih =>
    intro fr s k h
    simp only [Ab.exec]
    obtain ⟨n, hn⟩ := hL
    obtain ⟨fr', e, hx⟩ := maskK_sound keep (fun fr => E.loop (Ab.exec E c) keep fr s k) fr
    rw [e]
    simp only [hn]
    clear hn e hx
    induction n generalizing fr' s with
    | zero => exact NP.fail
    | succ n ihn =>
      simp only [loopIter]
      refine ih fun x fr s => ?_
      cases x with
      | norm =>
        simp only [joinK]
        obtain ⟨fr', e, _⟩ := maskK_sound keep (fun fr => loopIter (Ab.exec E c) keep n fr s k) fr
        rw [e]
        exact ihn (s := s) (fr' := fr')
      | _ => exact h _ _ _
  | exit id => exact fun h => h _ _ _
  | scope c ih =>
    intro fr s k h
    simp only [Ab.exec]
    exact ih h
  | ret => exact fun h => h _ _ _
theorem NP.setArgs : ∀ (vs : List AV) (i : Nat) (fr : Tr) (k : Tr → Res), (∀ fr, NP (k fr)) → NP (setArgs vs i fr k)
  | [], _, fr, _, h => h fr
  | v :: vs, i, fr, k, h => NP.setK 12 i v _ fr (fun fr => NP.setArgs vs (i + 1) fr k h)
theorem NP.finish {fn : AFn} {fr : Tr} {s : St} : NP (finish .not fn fr s) := by
  intro v s' h
  simp only [Ab.finish, Force.not] at h
  split at h
  · split at h
    · cases h
    · split at h
      · split at h <;> cases h
      · cases h
  · cases h
theorem NP.call {T : Nat → Option AFn} {G : Nat → AV} {X : Nat → List AV → St → Res} (hX : ∀ f args s, NP (X f args s)) : ∀ (n f : Nat) (args : List AV) (s : St), NP (call .not T G X n f args s)
  | 0, _, _, _ => NP.fail
  | n + 1, f, args, s => by
    simp only [Ab.call]
    split
    · exact hX _ _ _
    · cases Nat.beq _ _
      · exact NP.fail
      · refine NP.setArgs _ _ _ _ fun fr => NP.exec rfl ⟨_, fun _ _ _ _ _ => rfl⟩ _ fun x fr s => ?_
        cases x with
        | norm => exact NP.finish
        | ret => exact NP.finish
        | _ => exact NP.fail

theorem setArgs_inv {k : Tr → Res} {r : Res} (hf : r ≠ .fail) : ∀ (vs : List AV) (i : Nat) (fr : Tr), setArgs vs i fr k = r → ∃ fr', k fr' = r ∧ ∀ t, fr'.get t = if i ≤ t ∧ t < i + vs.length then vs.getD (t - i) .dead else fr.get t
  | [], i, fr, h => ⟨fr, h, fun t => by rw [if_neg (by rw [List.length_nil]; omega)]⟩
  | v :: vs, i, fr, h => by
    obtain ⟨fr₁, h1, h2⟩ := setK_sound 12 i v _ fr r h hf
    obtain ⟨fr', h3, h4⟩ := setArgs_inv hf vs (i + 1) fr₁ h1
    refine ⟨fr', h3, fun t => ?_⟩
    rw [h4 t]
    by_cases ht : t = i
    · subst ht
      rw [if_neg (by omega), h2, if_pos rfl, if_pos (by simp)]
      simp
    · by_cases hc : i + 1 ≤ t ∧ t < i + 1 + vs.length
      · rw [if_pos hc, if_pos (by simp; omega), show t - i = (t - (i + 1)) + 1 by omega]
        simp
      · rw [if_neg hc, h2, if_neg ht, if_neg (by simp; omega)]
end Go.Ab
