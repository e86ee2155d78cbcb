/- A function's code, abstract and machine's. -/
import Derived.Test.YtnafklimohmfkaaDoorDraw
import Derived.Scope
namespace Go.Ab
set_option linter.unusedSimpArgs false
set_option linter.unusedSectionVars false

def okCode (T : TT) (nt : Nat) : ACode → Code → Bool
  | .skip, .skip => true
  | .skip, .label _ => true
  | .region none aos, .region _ ops false => okOpers T nt ops aos ops.toList
  | .region (some []) aos, .region _ ops true => okDraw T nt ops aos
  | .seq a b, .seq x y => okCode T nt a x && okCode T nt b y
  | .mask _ a, c => okCode T nt a c
  | .cond c a b, .cond c' x y => okOpd c c' && okCode T nt a x && okCode T nt b y
  | .block i a, .block j x => Nat.beq i j && okCode T nt a x
  | .loop _ a, .loop x => okCode T nt a x
  | .exit i, .exit j => Nat.beq i j
  | .scope a, .scope x => okCode T nt a x
  | .ret, .ret => true
  | _, _ => false

inductive XR : AX → Exit → Prop
  | norm : XR .norm .normal
  | exit (i : Nat) : XR (.exit i) (.exit i)
  | ret : XR .ret .ret

theorem maskK_sound : ∀ (m : Mk) (k : Tr → Res) (fr : Tr), ∃ fr', Tr.maskK m k fr = k fr' ∧ ∀ t, fr'.get t = fr.get t ∨ fr'.get t = .dead
  | .e, k, fr => ⟨.e, by cases fr <;> rfl, fun t => .inr rfl⟩
  | .n ml b mr, k, .e => by
    obtain ⟨l', e1, h1⟩ := maskK_sound ml (fun l => Tr.maskK mr (fun r => k (.n l .dead r)) .e) .e
    obtain ⟨r', e2, h2⟩ := maskK_sound mr (fun r => k (.n l' .dead r)) .e
    refine ⟨.n l' .dead r', by simp only [Tr.maskK]; rw [e1]; exact e2, fun t => .inr ?_⟩
    have h1' : ∀ t, l'.get t = .dead := fun t => (h1 t).elim (fun h => h) id
    have h2' : ∀ t, r'.get t = .dead := fun t => (h2 t).elim (fun h => h) id
    simp only [Tr.get, h1', h2']
    cases Nat.beq t 0 <;> cases Nat.beq (t % 2) 1 <;> rfl
  | .n ml b mr, k, .n l v r => by
    obtain ⟨l', e1, h1⟩ := maskK_sound ml (fun l => Tr.maskK mr (fun r => k (.n l (bif b then v else .dead) r)) r) l
    obtain ⟨r', e2, h2⟩ := maskK_sound mr (fun r => k (.n l' (bif b then v else .dead) r)) r
    refine ⟨.n l' (bif b then v else .dead) r', by simp only [Tr.maskK]; rw [e1]; exact e2, fun t => ?_⟩
    simp only [Tr.get]
    cases Nat.beq t 0 with
    | true => cases b <;> simp
    | false =>
      simp only [cond_false]
      cases Nat.beq (t % 2) 1 with
      | true => exact h1 _
      | false => exact h2 _

theorem maskK_inv {m : Mk} {k : Tr → Res} {fr : Tr} {r : Res} (h : Tr.maskK m k fr = r) : ∃ fr', k fr' = r ∧ ∀ t, fr'.get t = fr.get t ∨ fr'.get t = .dead := by
  obtain ⟨fr', e, hg⟩ := maskK_sound m k fr
  exact ⟨fr', e.symm.trans h, hg⟩

theorem wp_loopN {P : Program} {c : Code} {Q : Exit → Act → World → Prop} (J : Nat → Act → World → Prop) (round : ∀ n a w, J n a w → c.wp P (Exit.then (fun a' w' => ∃ m, m < n ∧ J m a' w') Q) a w) {n : Nat} {a : Act} {w : World} (h : J n a w) : (Code.loop c).wp P Q a w := by
  intro b k cs
  have key : ∀ n a w, J n a w → ∃ e a' w', Q e a' w' ∧ Arrives P (lone (b.at a (.code c :: .inLoop c :: k)) cs w) b k cs e a' w' := by
    intro n
    induction n using Nat.strongRecOn with
    | _ n ih =>
      intro a w hJ
      obtain ⟨e, a₁, w₁, hq, harr⟩ := round n a w hJ b (.inLoop c :: k) cs
      cases e with
      | normal =>
        obtain ⟨m, hlt, hJ₁⟩ := hq
        obtain ⟨e₂, a₂, w₂, hq₂, harr₂⟩ := ih m hlt a₁ w₁ hJ₁
        exact ⟨e₂, a₂, w₂, hq₂, .of_steps (Steps.trans harr (.one step_inLoop)) harr₂⟩
      | exit id => exact ⟨_, a₁, w₁, hq, .pass (x := .inLoop c) rfl (fun _ _ => .inl (by simp)) harr⟩
      | goto l => exact ⟨_, a₁, w₁, hq, .pass (x := .inLoop c) rfl (fun _ _ => .inl (by simp)) harr⟩
      | ret => exact ⟨_, a₁, w₁, hq, .pass (x := .inLoop c) rfl (fun _ _ => .inl (by simp)) harr⟩
      | panic ch => exact ⟨_, a₁, w₁, hq, .pass (x := .inLoop c) rfl (fun _ _ => .inl (by simp)) harr⟩
      | outgrown => exact ⟨_, a₁, w₁, hq, .pass (x := .inLoop c) rfl (fun _ _ => .inl (by simp)) harr⟩
  obtain ⟨e, a', w', hq, harr⟩ := key n a w h
  exact ⟨e, a', w', hq, .of_steps (.one step_loop) harr⟩

/-- Where the code has come to. -/
def ExecPost (κ : Kap) (s : St) (w : World) (nt : Nat) (G : Nat → AV) (k : AX → Tr → St → Res) (r : Res) : Exit → Act → World → Prop := fun e a' w' => ∃ x κ' s' fr', XR x e ∧ Ext κ s w κ' s' w' ∧ Run κ' s' w' fr'.get a' nt G ∧ k x fr' s' = r

theorem ExecPost.trans {κ κ' : Kap} {s s' : St} {w w' : World} {nt : Nat} {G : Nat → AV} {k : AX → Tr → St → Res} {r : Res} (he : Ext κ s w κ' s' w') {e : Exit} {a : Act} {w'' : World} (h : ExecPost κ' s' w' nt G k r e a w'') : ExecPost κ s w nt G k r e a w'' := by
  obtain ⟨x, κ'', s'', fr', h1, h2, h3, h4⟩ := h
  exact ⟨x, κ'', s'', fr', h1, he.trans h2, h3, h4⟩

section
variable {P : Program} (hm : P.follows .mixedOrders = true) {nt : Nat} {T : TT} (hT : T.OK P) {E : Env} (hE : E.F = .not) (hC : CallOK P E)
include hm hT hE hC

theorem exec_sound : ∀ (c : ACode) (code : Code), okCode T nt c code = true → ∀ {κ : Kap} {s : St} {w : World} {fr : Tr} {a : Act} {k : AX → Tr → St → Res} {r : Res}, r ≠ .fail → Run κ s w fr.get a nt E.glob → exec E c fr s k = r → code.wp P (ExecPost κ s w nt E.glob k r) a w := by
  intro c
  induction c with
  | skip =>
    intro code hok κ s w fr a k r hf h hr
    cases code <;> simp only [okCode, Bool.false_eq_true] at hok
    · exact wp_skip ⟨.norm, κ, s, fr, .norm, .refl _ _ _, h, hr⟩
    · exact wp_label ⟨.norm, κ, s, fr, .norm, .refl _ _ _, h, hr⟩
  | region chk aos =>
    intro code hok κ s w fr a k r hf h hr
    cases code with
    | region id ops d =>
      cases chk with
      | none =>
        cases d with
        | true => simp [okCode] at hok
        | false =>
          simp only [okCode] at hok
          simp only [exec] at hr
          exact region_sound hT hE hC hok h hf hr (fun κ' s' w' fr' a' he h' hk => ⟨.norm, κ', s', fr', .norm, he, h', hk⟩) id
      | some chk =>
        cases chk with
        | cons x l => simp [okCode] at hok
        | nil =>
          cases d with
          | false => simp [okCode] at hok
          | true =>
            simp only [okCode] at hok
            simp only [exec, List.all_nil, cond_true] at hr
            exact draw_sound hT hE hC hm hok h hf hr (fun κ' s' w' fr' a' he h' hk => ⟨.norm, κ', s', fr', .norm, he, h', hk⟩) id
    | _ => cases chk <;> simp [okCode] at hok
  | seq x y ihx ihy =>
    intro code hok κ s w fr a k r hf h hr
    cases code <;> simp only [okCode, Bool.false_eq_true, Bool.and_eq_true] at hok
    simp only [exec] at hr
    refine wp_seq (wp_mono (ihx _ hok.1 hf h hr) fun e a' w' hp => ?_)
    obtain ⟨z, κ', s', fr', hz, he, h', hk⟩ := hp
    cases hz with
    | norm => exact wp_mono (ihy _ hok.2 hf h' hk) fun e a'' w'' hp => hp.trans he
    | exit i => exact ⟨.exit i, κ', s', fr', .exit i, he, h', hk⟩
    | ret => exact ⟨.ret, κ', s', fr', .ret, he, h', hk⟩
  | mask m x ih =>
    intro code hok κ s w fr a k r hf h hr
    have hok' : okCode T nt x code = true := by simpa only [okCode] using hok
    simp only [exec] at hr
    obtain ⟨fr₂, hl, hget⟩ := maskK_inv hr
    have h₂ : Run κ s w fr₂.get a nt E.glob := ⟨h.sim, fun t => by
      rcases hget t with q | q
      · rw [q]; exact h.fr t
      · rw [q]; exact .dead _, h.defers, h.size, h.glob⟩
    exact ih code hok' hf h₂ hl
  | cond c x y ihx ihy =>
    intro code hok κ s w fr a k r hf h hr
    cases code <;> simp only [okCode, Bool.false_eq_true, Bool.and_eq_true] at hok
    simp only [exec] at hr
    have hc := opnd_VR h.fr h.glob hok.1.1
    cases hv : opnd E.glob fr.get c <;> rw [hv] at hr hc <;> simp only at hr <;> first | exact absurd hr.symm hf | skip
    rename_i b
    cases b with
    | true => exact wp_cond_true (VR.bool_inv (b := true) hc) (ihx _ hok.1.2 hf h hr)
    | false => exact wp_cond_false (VR.bool_inv (b := false) hc) (ihy _ hok.2 hf h hr)
  | block id c ih =>
    intro code hok κ s w fr a k r hf h hr
    cases code <;> simp only [okCode, Bool.false_eq_true, Bool.and_eq_true] at hok
    have e := Nat.eq_of_beq_eq_true hok.1
    subst e
    simp only [exec] at hr
    refine wp_block (wp_mono (ih _ hok.2 hf h hr) fun e a' w' hp => ?_)
    obtain ⟨z, κ', s', fr', hz, he, h', hk⟩ := hp
    cases hz with
    | norm => exact ⟨.norm, κ', s', fr', .norm, he, h', hk⟩
    | exit i =>
      simp only [Exit.inBlock]
      simp only [blockK] at hk
      split
      · rename_i hi
        rw [hi, Nat.beq_refl, cond_true] at hk
        exact ⟨.norm, κ', s', fr', .norm, he, h', hk⟩
      · rename_i hi
        rw [show Nat.beq i id = false from by cases hb : Nat.beq i id with
          | false => rfl
          | true => exact absurd (Nat.eq_of_beq_eq_true hb) hi, cond_false] at hk
        exact ⟨.exit i, κ', s', fr', .exit i, he, h', hk⟩
    | ret => exact ⟨.ret, κ', s', fr', .ret, he, h', hk⟩
  | loop keep c ih =>
    intro code hok κ s w fr a k r hf h hr
    cases code <;> simp only [okCode, Bool.false_eq_true] at hok
    simp only [exec] at hr
    have masked : ∀ {κ' : Kap} {s' : St} {w' : World} {fr' fr₂ : Tr} {a' : Act}, Run κ' s' w' fr'.get a' nt E.glob → (∀ t, fr₂.get t = fr'.get t ∨ fr₂.get t = .dead) → Run κ' s' w' fr₂.get a' nt E.glob := fun h' hget => ⟨h'.sim, fun t => by
      rcases hget t with q | q
      · rw [q]; exact h'.fr t
      · rw [q]; exact .dead _, h'.defers, h'.size, h'.glob⟩
    obtain ⟨fr₀, hl₀, hget₀⟩ := maskK_inv hr
    obtain ⟨N, hN⟩ := hC.loop
    rw [hN] at hl₀
    refine wp_loopN (fun n a' w' => ∃ κ' s' fr', Ext κ s w κ' s' w' ∧ Run κ' s' w' fr'.get a' nt E.glob ∧ loopIter (exec E c) keep n fr' s' k = r) (fun n a' w' hJ => ?_) ⟨κ, s, fr₀, .refl _ _ _, masked h hget₀, hl₀⟩
    obtain ⟨κ', s', fr', he, h', hl⟩ := hJ
    cases n with
    | zero => exact absurd hl.symm hf
    | succ n =>
      simp only [loopIter] at hl
      refine wp_mono (ih _ hok hf h' hl) fun e a'' w'' hp => ?_
      obtain ⟨z, κ'', s'', fr'', hz, he', h'', hk⟩ := hp
      cases hz with
      | norm =>
        simp only [joinK] at hk
        obtain ⟨fr₂, hl₂, hget₂⟩ := maskK_inv hk
        exact ⟨n, Nat.lt_succ_self n, κ'', s'', fr₂, he.trans he', masked h'' hget₂, hl₂⟩
      | exit i => exact ⟨.exit i, κ'', s'', fr'', .exit i, he.trans he', h'', hk⟩
      | ret => exact ⟨.ret, κ'', s'', fr'', .ret, he.trans he', h'', hk⟩
  | exit id =>
    intro code hok κ s w fr a k r hf h hr
    cases code <;> simp only [okCode, Bool.false_eq_true] at hok
    have e := Nat.eq_of_beq_eq_true hok
    subst e
    exact wp_exit ⟨.exit id, κ, s, fr, .exit id, .refl _ _ _, h, hr⟩
  | scope c ih =>
    intro code hok κ s w fr a k r hf h hr
    cases code <;> simp only [okCode, Bool.false_eq_true] at hok
    simp only [exec] at hr
    refine wp_scope_straight (wp_mono (ih _ hok hf h hr) fun e a' w' hp => ?_)
    obtain ⟨z, κ', s', fr', hz, he, h', hk⟩ := hp
    cases hz with
    | norm => exact ⟨.norm, κ', s', fr', .norm, he, h', hk⟩
    | exit i => exact ⟨.exit i, κ', s', fr', .exit i, he, h', hk⟩
    | ret => exact ⟨.ret, κ', s', fr', .ret, he, h', hk⟩
  | ret =>
    intro code hok κ s w fr a k r hf h hr
    cases code <;> simp only [okCode, Bool.false_eq_true] at hok
    exact wp_ret ⟨.ret, κ, s, fr, .ret, .refl _ _ _, h, hr⟩
end
end Go.Ab
