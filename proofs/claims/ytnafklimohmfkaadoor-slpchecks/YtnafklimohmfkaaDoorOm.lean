/- The evaluator without a bound on its rounds: what it gives some bound gives. -/
import Derived.Test.YtnafklimohmfkaaDoorCall3
namespace Go.Ab
set_option linter.unusedSimpArgs false
set_option linter.unusedSectionVars false
open Classical

def Le (a b : Res) : Prop := a = .fail ∨ a = b
theorem Le.refl (a : Res) : Le a a := .inr rfl
theorem Le.eq {a b r : Res} (h : Le a b) (ha : a = r) (hr : r ≠ .fail) : b = r := by
  rcases h with h | h
  · exact absurd (ha.symm.trans h) hr
  · exact h ▸ ha

/-- A row of results comes to one. -/
def Lim (a : Nat → Res) (b : Res) : Prop := (∀ n, Le (a n) b) ∧ (b ≠ .fail → ∃ N, ∀ n, N ≤ n → a n = b)
theorem Lim.const (a : Res) : Lim (fun _ => a) a := ⟨fun _ => .refl _, fun _ => ⟨0, fun _ _ => rfl⟩⟩
theorem Lim.of_eq {a : Nat → Res} {b : Res} (h : ∀ n, a n = b) : Lim a b := ⟨fun n => .inr (h n), fun _ => ⟨0, fun n _ => h n⟩⟩
theorem Lim.fail : Lim (fun _ => .fail) .fail := .const _
theorem Lim.bind {a : Nat → Res} {b : Res} (h : Lim a b) {k kp : Nat → AV → St → Res} {l lp : AV → St → Res} (hk : ∀ v s, Lim (fun n => k n v s) (l v s)) (hp : ∀ v s, Lim (fun n => kp n v s) (lp v s)) : Lim (fun n => Res.bind (a n) (k n) (kp n)) (Res.bind b l lp) := by
  refine ⟨fun n => ?_, fun hb => ?_⟩
  · rcases h.1 n with e | e
    · left; simp only [e]; rfl
    · simp only [e]
      cases b with
      | fail => exact .refl _
      | ok v s => exact (hk v s).1 n
      | panic v s => exact (hp v s).1 n
  · cases hbb : b with
    | fail => rw [hbb] at hb; exact absurd rfl hb
    | ok v s =>
      rw [hbb] at hb h
      obtain ⟨N, hN⟩ := h.2 (by simp)
      obtain ⟨M, hM⟩ := (hk v s).2 hb
      exact ⟨max N M, fun n hn => by show Res.bind (a n) _ _ = _; rw [hN n (by omega)]; exact hM n (by omega)⟩
    | panic v s =>
      rw [hbb] at hb h
      obtain ⟨N, hN⟩ := h.2 (by simp)
      obtain ⟨M, hM⟩ := (hp v s).2 hb
      exact ⟨max N M, fun n hn => by show Res.bind (a n) _ _ = _; rw [hN n (by omega)]; exact hM n (by omega)⟩

def KLim (k : Nat → KK) (l : KK) : Prop := ∀ x fr s, Lim (fun n => k n x fr s) (l x fr s)
def StepLim (st : Nat → SS) (su : SS) : Prop := ∀ fr s k l, KLim k l → Lim (fun n => st n fr s (k n)) (su fr s l)
def StepMono (st : SS) : Prop := ∀ fr s k l, (∀ x fr s, Le (k x fr s) (l x fr s)) → Le (st fr s k) (st fr s l)
theorem StepLim.mono {st : SS} (h : StepLim (fun _ => st) st) : StepMono st := fun fr s k l hk => by
  have := h fr s (fun n => if n = 0 then k else l) l (fun x fr s => ⟨fun n => by
    simp only
    split
    · exact hk x fr s
    · exact .refl _, fun _ => ⟨1, fun n hn => by simp [show n ≠ 0 by omega]⟩⟩)
  simpa using this.1 0

def Tr.mask : Mk → Tr → Tr
  | .e, _ => .e
  | .n ml _ mr, .e => .n (Tr.mask ml .e) .dead (Tr.mask mr .e)
  | .n ml b mr, .n l v r => .n (Tr.mask ml l) (bif b then v else .dead) (Tr.mask mr r)
theorem maskK_eq : ∀ (m : Mk) (k : Tr → Res) (fr : Tr), Tr.maskK m k fr = k (Tr.mask m fr)
  | .e, k, fr => by cases fr <;> rfl
  | .n ml b mr, k, .e => by simp only [Tr.maskK, Tr.mask, maskK_eq ml, maskK_eq mr]
  | .n ml b mr, k, .n l v r => by simp only [Tr.maskK, Tr.mask, maskK_eq ml, maskK_eq mr]
theorem loopIter_succ (st : SS) (keep : Mk) (n : Nat) (fr : Tr) (s : St) (k : KK) : loopIter st keep (n + 1) fr s k = st fr s (joinK keep (loopIter st keep n) k) := rfl

theorem loopIter_lim {st : Nat → SS} {su : SS} (h : StepLim st su) {k : Nat → KK} {l : KK} (hk : KLim k l) (keep : Mk) : ∀ (m : Nat) (fr : Tr) (s : St), Lim (fun n => loopIter (st n) keep m fr s (k n)) (loopIter su keep m fr s l)
  | 0, _, _ => .fail
  | m + 1, fr, s => by
    simp only [loopIter_succ]
    refine h _ _ _ _ (fun x fr s => ?_)
    cases x with
    | norm => simp only [joinK, maskK_eq]; exact loopIter_lim h hk keep m _ s
    | _ => exact hk _ _ _
theorem loopIter_up {st : SS} (h : StepMono st) (keep : Mk) (k : KK) : ∀ (m : Nat) (fr : Tr) (s : St), Le (loopIter st keep m fr s k) (loopIter st keep (m + 1) fr s k)
  | 0, _, _ => .inl rfl
  | m + 1, fr, s => by
    rw [loopIter_succ, loopIter_succ]
    refine h _ _ _ _ (fun x fr s => ?_)
    cases x with
    | norm => simp only [joinK, maskK_eq]; exact loopIter_up h keep k m _ s
    | _ => exact .refl _
theorem loopIter_eq {st : SS} (h : StepMono st) {keep : Mk} {k : KK} {m : Nat} {fr : Tr} {s : St} {r : Res} (hr : r ≠ .fail) (e : loopIter st keep m fr s k = r) : ∀ m', m ≤ m' → loopIter st keep m' fr s k = r := by
  intro m' hm
  induction hm with
  | refl => exact e
  | step _ ih => exact (loopIter_up h keep k _ fr s).eq ih hr

noncomputable def loopω (st : SS) (keep : Mk) (fr : Tr) (s : St) (k : KK) : Res := if h : ∃ n, loopIter st keep n fr s k ≠ .fail then loopIter st keep h.choose fr s k else .fail
theorem loopω_of {st : SS} (h : StepMono st) {keep : Mk} {k : KK} {m : Nat} {fr : Tr} {s : St} {r : Res} (hr : r ≠ .fail) (e : loopIter st keep m fr s k = r) : loopω st keep fr s k = r := by
  have hx : ∃ n, loopIter st keep n fr s k ≠ .fail := ⟨m, by rw [e]; exact hr⟩
  unfold loopω
  rw [dif_pos hx]
  have h1 := hx.choose_spec
  have h2 := loopIter_eq h h1 rfl (max hx.choose m) (by omega)
  have h3 := loopIter_eq h hr e (max hx.choose m) (by omega)
  exact h2.symm.trans h3
theorem loopω_inv {st : SS} {keep : Mk} {k : KK} {fr : Tr} {s : St} {r : Res} (hr : r ≠ .fail) (e : loopω st keep fr s k = r) : ∃ m, loopIter st keep m fr s k = r := by
  unfold loopω at e
  split at e
  · exact ⟨_, e⟩
  · exact absurd e.symm hr

/-- How loops go round, as rounds grow. -/
def LoopLim (a : Nat → SS → Mk → SS) (b : SS → Mk → SS) : Prop := ∀ (st : Nat → SS) (su : SS) keep fr s k l, (∀ n, StepMono (st n)) → StepMono su → StepLim st su → KLim k l → Lim (fun n => a n (st n) keep fr s (k n)) (b su keep fr s l)

theorem loopω_lim : LoopLim (fun _ => loopω) loopω := fun st su keep fr s k l h1 h2 h3 h4 => by
  refine ⟨fun n => ?_, fun hb => ?_⟩
  · by_cases hf : loopω (st n) keep fr s (k n) = .fail
    · exact .inl hf
    · obtain ⟨m, e⟩ := loopω_inv hf rfl
      exact .inr (loopω_of h2 hf (((loopIter_lim h3 h4 keep m fr s).1 n).eq e hf)).symm
  · obtain ⟨m, e⟩ := loopω_inv hb rfl
    obtain ⟨N, hN⟩ := (loopIter_lim h3 h4 keep m fr s).2 (by rw [e]; exact hb)
    exact ⟨N, fun n hn => loopω_of (h1 n) hb ((hN n hn).trans e)⟩
theorem loopIter_grow : LoopLim (fun n st keep fr s k => loopIter st keep n fr s k) loopω := fun st su keep fr s k l h1 h2 h3 h4 => by
  refine ⟨fun n => ?_, fun hb => ?_⟩
  · by_cases hf : loopIter (st n) keep n fr s (k n) = .fail
    · exact .inl hf
    · exact .inr (loopω_of h2 hf (((loopIter_lim h3 h4 keep n fr s).1 n).eq rfl hf)).symm
  · obtain ⟨m, e⟩ := loopω_inv hb rfl
    obtain ⟨N, hN⟩ := (loopIter_lim h3 h4 keep m fr s).2 (by rw [e]; exact hb)
    exact ⟨max N m, fun n hn => loopIter_eq (h1 n) hb ((hN n (by omega)).trans e) n (by omega)⟩
theorem loopIter_two (m : Nat) : LoopLim (fun i st keep fr s k => loopIter st keep (if i = 0 then m else m + 1) fr s k) (fun st keep fr s k => loopIter st keep (m + 1) fr s k) := fun st su keep fr s k l h1 h2 h3 h4 => by
  refine ⟨fun n => ?_, fun hb => ?_⟩
  · simp only
    split
    · by_cases hf : loopIter (st n) keep m fr s (k n) = .fail
      · exact .inl hf
      · exact .inr ((loopIter_eq h2 hf (((loopIter_lim h3 h4 keep m fr s).1 n).eq rfl hf) (m + 1) (by omega)).symm)
    · exact (loopIter_lim h3 h4 keep (m + 1) fr s).1 n
  · obtain ⟨N, hN⟩ := (loopIter_lim h3 h4 keep (m + 1) fr s).2 hb
    exact ⟨max N 1, fun n hn => by simp only [show n ≠ 0 by omega, ↓reduceIte]; exact hN n (by omega)⟩

def EV (G : Nat → AV) (c : Nat → List AV → St → Res) (l : SS → Mk → SS) : Env := { F := .not, glob := G, call := c, loop := l }

section
variable {G : Nat → AV} {c : Nat → Nat → List AV → St → Res} {cu : Nat → List AV → St → Res} {l : Nat → SS → Mk → SS} {lu : SS → Mk → SS} (hc : ∀ f args s, Lim (fun n => c n f args s) (cu f args s))
include hc

theorem callV_lim (s : St) (f : Nat) (args : List AV) : Lim (fun n => callV (EV G (c n) (l n)) s .ok .panic f args) (callV (EV G cu lu) s .ok .panic f args) := by
  have e : ∀ E : Env, callV E s .ok .panic f args = Res.bind (E.call f args s) (fun v s' => bif Nat.beq s'.depth s.depth then .ok v s' else .fail) .panic := fun E => by
    unfold callV
    cases E.call f args s <;> rfl
  simp only [e]
  exact (hc f args s).bind (fun _ _ => .const _) (fun _ _ => .const _)
theorem callPV_lim (s : St) (f : Nat) (args : List AV) : Lim (fun n => callPV (EV G (c n) (l n)) s .ok f args) (callPV (EV G cu lu) s .ok f args) := by
  have e : ∀ E : Env, callPV E s .ok f args = bif AV.reflessL args then Res.bind (E.call f args { own := [], up := [], ro := [] }) (fun v _ => bif v.refless then .ok v s else .fail) (fun _ _ => .fail) else .fail := fun E => by
    unfold callPV
    cases AV.reflessL args <;> try rfl
    cases E.call f args _ <;> rfl
  simp only [e]
  cases AV.reflessL args
  · exact .fail
  · exact (hc f args _).bind (fun _ _ => .const _) (fun _ _ => .const _)
theorem callCV_lim (s : St) (xs : List (Option Nat × AV)) (f : Nat) (args : List AV) : Lim (fun n => callCV (EV G (c n) (l n)) s .ok .panic xs f args) (callCV (EV G cu lu) s .ok .panic xs f args) := by
  have e : ∀ E : Env, callCV E s .ok .panic xs f args = Res.bind (E.call f args s) (fun v s' => bif Nat.beq s'.depth s.depth then (bif xs.all fun x => sameO (cellsAt s x.1 x.2) (cellsAt s' x.1 x.2) then .ok v s' else .fail) else .fail) .panic := fun E => by
    unfold callCV callV
    cases E.call f args s <;> rfl
  simp only [e]
  exact (hc f args s).bind (fun _ _ => .const _) (fun _ _ => .const _)
theorem stepOp_lim (fr : Nat → AV) (s : St) (op : AOp) : Lim (fun n => stepOp (EV G (c n) (l n)) fr s .ok .panic op) (stepOp (EV G cu lu) fr s .ok .panic op) := by
  cases op with
  | call f args =>
    show Lim (fun n => callV (EV G (c n) (l n)) s .ok .panic f (args.map fun x => (opnd G fr x).pub s.depth)) (callV (EV G cu lu) s .ok .panic f (args.map fun x => (opnd G fr x).pub s.depth))
    exact callV_lim hc s f _
  | callC ks f args =>
    show Lim (fun n => callCV (EV G (c n) (l n)) s .ok .panic (ks.map fun x => (x.1, opnd G fr x.2)) f (args.map fun x => (opnd G fr x).pub s.depth)) (callCV (EV G cu lu) s .ok .panic (ks.map fun x => (x.1, opnd G fr x.2)) f (args.map fun x => (opnd G fr x).pub s.depth))
    exact callCV_lim hc s _ f _
  | callVC ks f args =>
    show Lim (fun n => callFCV (EV G (c n) (l n)) s .ok .panic (ks.map fun x => (x.1, opnd G fr x.2)) (opnd G fr f) (args.map fun x => (opnd G fr x).pub s.depth)) (callFCV (EV G cu lu) s .ok .panic (ks.map fun x => (x.1, opnd G fr x.2)) (opnd G fr f) (args.map fun x => (opnd G fr x).pub s.depth))
    cases opnd G fr f with
    | fn g caps => exact callCV_lim hc s _ g _
    | _ => exact .fail
  | callP f args =>
    show Lim (fun n => callPV (EV G (c n) (l n)) s .ok f (args.map fun x => (opnd G fr x).pub s.depth)) (callPV (EV G cu lu) s .ok f (args.map fun x => (opnd G fr x).pub s.depth))
    exact callPV_lim hc s f _
  | callV f args =>
    show Lim (fun n => callFV (EV G (c n) (l n)) s .ok .panic (opnd G fr f) (args.map fun x => (opnd G fr x).pub s.depth)) (callFV (EV G cu lu) s .ok .panic (opnd G fr f) (args.map fun x => (opnd G fr x).pub s.depth))
    cases opnd G fr f with
    | fn g caps => exact callV_lim hc s g _
    | _ => exact .fail
  | callVP f args =>
    show Lim (fun n => callFPV (EV G (c n) (l n)) s .ok (opnd G fr f) (args.map fun x => (opnd G fr x).pub s.depth)) (callFPV (EV G cu lu) s .ok (opnd G fr f) (args.map fun x => (opnd G fr x).pub s.depth))
    cases opnd G fr f with
    | fn g caps => exact callPV_lim hc s g _
    | _ => exact .fail
  | _ => exact .of_eq (fun n => rfl)
theorem stepOp_limK (fr : Nat → AV) (s : St) (op : AOp) {k kp : Nat → AV → St → Res} {m mp : AV → St → Res} (hk : ∀ v s, Lim (fun n => k n v s) (m v s)) (hp : ∀ v s, Lim (fun n => kp n v s) (mp v s)) :
    Lim (fun n => stepOp (EV G (c n) (l n)) fr s (k n) (kp n) op) (stepOp (EV G cu lu) fr s m mp op) := by
  have e : ∀ n, stepOp (EV G (c n) (l n)) fr s (k n) (kp n) op = Res.bind (stepOp (EV G (c n) (l n)) fr s .ok .panic op) (k n) (kp n) := fun n => stepOp_bind rfl _ _ _ _ _
  rw [stepOp_bind (E := EV G cu lu) rfl]
  simp only [e]
  exact (stepOp_lim hc fr s op).bind hk hp

theorem setK_lim : ∀ (d i : Nat) (v : AV) {k : Nat → Tr → Res} {m : Tr → Res} (_ : ∀ fr, Lim (fun n => k n fr) (m fr)) (fr : Tr), Lim (fun n => fr.setK d i v (k n)) (fr.setK d i v m)
  | 0, _, _, _, _, _, _ => .fail
  | d + 1, i, v, k, m, h, .e => by
    simp only [Tr.setK]
    cases Nat.beq i 0 with
    | true => exact h _
    | false =>
      cases Nat.beq (i % 2) 1 with
      | true => exact setK_lim d _ v (fun l => h _) _
      | false => exact setK_lim d _ v (fun l => h _) _
  | d + 1, i, v, k, m, h, .n a x b => by
    simp only [Tr.setK]
    cases Nat.beq i 0 with
    | true => exact h _
    | false =>
      cases Nat.beq (i % 2) 1 with
      | true => exact setK_lim d _ v (fun l => h _) _
      | false => exact setK_lim d _ v (fun l => h _) _
theorem putK_lim (dst : Option Nat) (v : AV) {k : Nat → Tr → Res} {m : Tr → Res} (h : ∀ fr, Lim (fun n => k n fr) (m fr)) (fr : Tr) : Lim (fun n => putK fr dst v (k n)) (putK fr dst v m) := by
  cases dst with
  | none => exact h fr
  | some i => exact setK_lim hc 12 i v h fr
theorem runOps_lim : ∀ (os : List AOper) (fr : Tr) (s : St) {k : Nat → Tr → St → Res} {m : Tr → St → Res} {kp : Nat → AV → Tr → St → Res} {mp : AV → Tr → St → Res} (_ : ∀ fr s, Lim (fun n => k n fr s) (m fr s)) (_ : ∀ v fr s, Lim (fun n => kp n v fr s) (mp v fr s)),
    Lim (fun n => runOps (EV G (c n) (l n)) os fr s (k n) (kp n)) (runOps (EV G cu lu) os fr s m mp)
  | [], fr, s, k, m, kp, mp, h, hp => h fr s
  | o :: os, fr, s, k, m, kp, mp, h, hp => by
    simp only [runOps]
    have key : ∀ w : Bool, Lim (fun n => bif w then stepOp (EV G (c n) (l n)) fr.get s (fun v s => putK fr o.dst v fun fr => runOps (EV G (c n) (l n)) os fr s (k n) (kp n)) (fun v s => kp n v fr s) o.op else putK fr o.dst (.tup []) fun fr => runOps (EV G (c n) (l n)) os fr s (k n) (kp n))
        (bif w then stepOp (EV G cu lu) fr.get s (fun v s => putK fr o.dst v fun fr => runOps (EV G cu lu) os fr s m mp) (fun v s => mp v fr s) o.op else putK fr o.dst (.tup []) fun fr => runOps (EV G cu lu) os fr s m mp) := fun w => by
      cases w with
      | true => exact stepOp_limK hc fr.get s o.op (fun v s => putK_lim hc o.dst v (fun fr => runOps_lim os fr s h hp) fr) (fun v s => hp v fr s)
      | false => exact putK_lim hc o.dst _ (fun fr => runOps_lim os fr s h hp) fr
    unfold wantedK
    split
    · exact key _
    · split
      · exact key _
      · exact key _
      · exact .fail

variable (hl : LoopLim l lu) (hm : ∀ n, LoopLim (fun _ => l n) (l n)) (hmu : LoopLim (fun _ => lu) lu)
include hl hm hmu
theorem exec_lim' : ∀ (code : ACode), StepLim (fun n => exec (EV G (c n) (l n)) code) (exec (EV G cu lu) code) ∧ (∀ n, StepLim (fun _ => exec (EV G (c n) (l n)) code) (exec (EV G (c n) (l n)) code)) ∧ StepLim (fun _ => exec (EV G cu lu) code) (exec (EV G cu lu) code) := by
  have gen : ∀ (code : ACode) (c : Nat → Nat → List AV → St → Res) (cu : Nat → List AV → St → Res) (l : Nat → SS → Mk → SS) (lu : SS → Mk → SS), (∀ f args s, Lim (fun n => c n f args s) (cu f args s)) → LoopLim l lu → (∀ n, LoopLim (fun _ => l n) (l n)) → LoopLim (fun _ => lu) lu → StepLim (fun n => exec (EV G (c n) (l n)) code) (exec (EV G cu lu) code) := by
    intro code
    induction code with
    | skip => intro c cu l lu hc hl hm hmu fr s k m hk; exact hk _ _ _
    | region chk ops =>
      intro c cu l lu hc hl hm hmu fr s k m hk
      cases chk with
      | none => exact runOps_lim hc ops fr s (fun fr s => hk _ _ _) (fun v fr s => .fail)
      | some chk =>
        simp only [exec]
        show Lim (fun n => bif chk.all (apartB G fr.get) then _ else _) (bif chk.all (apartB G fr.get) then _ else _)
        cases chk.all (apartB G fr.get)
        · exact .fail
        · exact runOps_lim hc ops fr s (fun fr s => hk _ _ _) (fun v fr s => .fail)
    | seq a b iha ihb =>
      intro c cu l lu hc hl hm hmu fr s k m hk
      simp only [exec]
      refine iha c cu l lu hc hl hm hmu fr s _ _ (fun x fr s => ?_)
      cases x with
      | norm => exact ihb c cu l lu hc hl hm hmu fr s k m hk
      | _ => exact hk _ _ _
    | cond x a b iha ihb =>
      intro c cu l lu hc hl hm hmu fr s k m hk
      simp only [exec]
      show Lim (fun n => match opnd G fr.get x with | .bool t => bif t then exec (EV G (c n) (l n)) a fr s (k n) else exec (EV G (c n) (l n)) b fr s (k n) | _ => .fail) (match opnd G fr.get x with | .bool t => bif t then exec (EV G cu lu) a fr s m else exec (EV G cu lu) b fr s m | _ => .fail)
      cases opnd G fr.get x with
      | bool t => cases t with
        | true => exact iha c cu l lu hc hl hm hmu fr s k m hk
        | false => exact ihb c cu l lu hc hl hm hmu fr s k m hk
      | _ => exact .fail
    | mask m' a ih =>
      intro c cu l lu hc hl hm hmu fr s k m hk
      simp only [exec, maskK_eq]
      exact ih c cu l lu hc hl hm hmu _ s k m hk
    | block id a ih =>
      intro c cu l lu hc hl hm hmu fr s k m hk
      simp only [exec]
      refine ih c cu l lu hc hl hm hmu fr s _ _ (fun x fr s => ?_)
      cases x with
      | exit j =>
        simp only [blockK]
        cases Nat.beq j id
        · exact hk _ _ _
        · exact hk _ _ _
      | _ => exact hk _ _ _
    | loop keep a ih =>
      intro c cu l lu hc hl hm hmu fr s k m hk
      simp only [exec, maskK_eq]
      refine hl _ _ keep _ s k m (fun n => ?_) ?_ (ih c cu l lu hc hl hm hmu) hk
      · exact (ih (fun _ => c n) (c n) (fun _ => l n) (l n) (fun _ _ _ => .const _) (hm n) (fun _ => hm n) (hm n)).mono
      · exact (ih (fun _ => cu) cu (fun _ => lu) lu (fun _ _ _ => .const _) hmu (fun _ => hmu) hmu).mono
    | exit id => intro c cu l lu hc hl hm hmu fr s k m hk; exact hk _ _ _
    | scope a ih => intro c cu l lu hc hl hm hmu fr s k m hk; simp only [exec]; exact ih c cu l lu hc hl hm hmu fr s k m hk
    | ret => intro c cu l lu hc hl hm hmu fr s k m hk; exact hk _ _ _
  intro code
  exact ⟨gen code c cu l lu hc hl hm hmu, fun n => gen code (fun _ => c n) (c n) (fun _ => l n) (l n) (fun _ _ _ => .const _) (hm n) (fun _ => hm n) (hm n), gen code (fun _ => cu) cu (fun _ => lu) lu (fun _ _ _ => .const _) hmu (fun _ => hmu) hmu⟩
end

theorem loopIter_const (m : Nat) : LoopLim (fun _ st keep fr s k => loopIter st keep m fr s k) (fun st keep fr s k => loopIter st keep m fr s k) := fun _ _ keep fr s _ _ _ _ h3 h4 => loopIter_lim h3 h4 keep m fr s

theorem setArgs_lim : ∀ (vs : List AV) (i : Nat) (fr : Tr) {k : Nat → Tr → Res} {m : Tr → Res} (_ : ∀ fr, Lim (fun n => k n fr) (m fr)), Lim (fun n => setArgs vs i fr (k n)) (setArgs vs i fr m)
  | [], _, fr, _, _, h => h fr
  | v :: vs, i, fr, k, m, h => setK_lim (c := fun _ _ _ _ => .fail) (cu := fun _ _ _ => .fail) (fun _ _ _ => .fail) 12 i v (fun fr => setArgs_lim vs (i + 1) fr h) fr

/-- A function's body, in whatever its calls and loops are. -/
def body (T : Nat → Option AFn) (G : Nat → AV) (X : Nat → List AV → St → Res) (c : Nat → List AV → St → Res) (l : SS → Mk → SS) (f : Nat) (args : List AV) (s : St) : Res :=
  match T f with
  | none => X f args s
  | some fn =>
    bif Nat.beq args.length fn.np then
      setArgs args 0 .e fun fr => exec (EV G c l) fn.body fr (if fn.keep then s else { own := [], up := s.own :: s.up, ro := s.ro }) (finK .not fn)
    else .fail
theorem body_lim {T : Nat → Option AFn} {G : Nat → AV} {X : Nat → List AV → St → Res} {c : Nat → Nat → List AV → St → Res} {cu : Nat → List AV → St → Res} {l : Nat → SS → Mk → SS} {lu : SS → Mk → SS} (hc : ∀ f args s, Lim (fun n => c n f args s) (cu f args s)) (hl : LoopLim l lu) (hm : ∀ n, LoopLim (fun _ => l n) (l n)) (hmu : LoopLim (fun _ => lu) lu) (f : Nat) (args : List AV) (s : St) :
    Lim (fun n => body T G X (c n) (l n) f args s) (body T G X cu lu f args s) := by
  unfold body
  cases T f with
  | none => exact .const _
  | some fn =>
    simp only
    cases Nat.beq args.length fn.np with
    | false => exact .fail
    | true =>
      simp only [cond_true]
      refine setArgs_lim args 0 .e (fun fr => (exec_lim' hc hl hm hmu fn.body).1 fr _ _ _ (fun x fr s => ?_))
      cases x <;> exact .const _
theorem call_body (T : Nat → Option AFn) (G : Nat → AV) (X : Nat → List AV → St → Res) (n f : Nat) (args : List AV) (s : St) : call .not T G X (n + 1) f args s = body T G X (call .not T G X n) (fun st keep fr s k => loopIter st keep n fr s k) f args s := rfl

section
variable (T : Nat → Option AFn) (G : Nat → AV) (X : Nat → List AV → St → Res)
theorem call_up : ∀ (n f : Nat) (args : List AV) (s : St), Le (call .not T G X n f args s) (call .not T G X (n + 1) f args s)
  | 0, f, args, s => .inl rfl
  | n + 1, f, args, s => by
    have h := body_lim (T := T) (G := G) (X := X) (c := fun i => call .not T G X (if i = 0 then n else n + 1)) (cu := call .not T G X (n + 1)) (fun f args s => ⟨fun i => by
        simp only
        split
        · exact call_up n f args s
        · exact .refl _, fun _ => ⟨1, fun i hi => by simp [show i ≠ 0 by omega]⟩⟩) (loopIter_two n) (fun i => by by_cases hi : i = 0 <;> simp only [hi, ↓reduceIte] <;> exact loopIter_const _) (loopIter_const (n + 1)) f args s
    have := h.1 0
    simp only [↓reduceIte] at this
    rw [call_body, call_body]
    exact this
theorem call_eq {n f : Nat} {args : List AV} {s : St} {r : Res} (hr : r ≠ .fail) (e : call .not T G X n f args s = r) : ∀ m, n ≤ m → call .not T G X m f args s = r := by
  intro m hm
  induction hm with
  | refl => exact e
  | step _ ih => exact (call_up T G X _ f args s).eq ih hr

/-- A call, with as many rounds as it takes. -/
noncomputable def callω (f : Nat) (args : List AV) (s : St) : Res := if h : ∃ n, call .not T G X n f args s ≠ .fail then call .not T G X h.choose f args s else .fail
theorem callω_of {n f : Nat} {args : List AV} {s : St} {r : Res} (hr : r ≠ .fail) (e : call .not T G X n f args s = r) : callω T G X f args s = r := by
  have hx : ∃ n, call .not T G X n f args s ≠ .fail := ⟨n, by rw [e]; exact hr⟩
  unfold callω
  rw [dif_pos hx]
  have h1 := hx.choose_spec
  exact (call_eq T G X h1 rfl (max hx.choose n) (by omega)).symm.trans (call_eq T G X hr e (max hx.choose n) (by omega))
theorem callω_inv {f : Nat} {args : List AV} {s : St} {r : Res} (hr : r ≠ .fail) (e : callω T G X f args s = r) : ∃ n, call .not T G X n f args s = r := by
  unfold callω at e
  split at e
  · exact ⟨_, e⟩
  · exact absurd e.symm hr
theorem callω_lim (f : Nat) (args : List AV) (s : St) : Lim (fun n => call .not T G X n f args s) (callω T G X f args s) := by
  refine ⟨fun n => ?_, fun hb => ?_⟩
  · by_cases hf : call .not T G X n f args s = .fail
    · exact .inl hf
    · exact .inr (callω_of T G X hf rfl).symm
  · obtain ⟨n, e⟩ := callω_inv T G X hb rfl
    exact ⟨n, fun m hm => call_eq T G X hb e m hm⟩
/-- A call is its function's body. -/
theorem callω_body (f : Nat) (args : List AV) (s : St) : callω T G X f args s = body T G X (callω T G X) loopω f args s := by
  have h := body_lim (T := T) (G := G) (X := X) (callω_lim T G X) loopIter_grow (fun n => loopIter_const n) loopω_lim f args s
  by_cases hf : body T G X (callω T G X) loopω f args s = .fail
  · rw [hf]
    by_cases hc : callω T G X f args s = .fail
    · exact hc
    · obtain ⟨n, e⟩ := callω_inv T G X hc rfl
      have := call_eq T G X hc e (n + 1) (by omega)
      rw [call_body] at this
      exact absurd ((h.1 n).eq this hc) (by rw [hf]; exact fun q => hc q.symm)
  · obtain ⟨N, hN⟩ := h.2 hf
    have e := (call_body T G X N f args s).trans (hN N (Nat.le_refl _))
    exact callω_of T G X hf e
end

/-- A loop is its first round, and the rest. -/
theorem loopω_succ {G : Nat → AV} {cu : Nat → List AV → St → Res} (code : ACode) (keep : Mk) (fr : Tr) (s : St) (k : KK) : loopω (exec (EV G cu loopω) code) keep fr s k = exec (EV G cu loopω) code fr s (joinK keep (loopω (exec (EV G cu loopω) code) keep) k) := by
  have hL := (exec_lim' (G := G) (c := fun _ => cu) (cu := cu) (l := fun _ => loopω) (lu := loopω) (fun _ _ _ => .const _) loopω_lim (fun _ => loopω_lim) loopω_lim code).1
  have hM := hL.mono
  have hk : KLim (fun n => joinK keep (loopIter (exec (EV G cu loopω) code) keep n) k) (joinK keep (loopω (exec (EV G cu loopω) code) keep) k) := fun x fr s => by
    cases x with
    | norm =>
      simp only [joinK, maskK_eq]
      generalize Tr.mask keep fr = fr
      refine ⟨fun n => ?_, fun hb => ?_⟩
      · by_cases hf : loopIter (exec (EV G cu loopω) code) keep n fr s k = .fail
        · exact .inl hf
        · exact .inr (loopω_of hM hf rfl).symm
      · obtain ⟨n, e⟩ := loopω_inv hb rfl
        exact ⟨n, fun m hm => loopIter_eq hM hb e m hm⟩
    | _ => exact .const _
  have h := hL fr s _ _ hk
  generalize hR : exec (EV G cu loopω) code fr s (joinK keep (loopω (exec (EV G cu loopω) code) keep) k) = R at h ⊢
  by_cases hf : R = .fail
  · rw [hf]
    by_cases hc : loopω (exec (EV G cu loopω) code) keep fr s k = .fail
    · exact hc
    · obtain ⟨n, e⟩ := loopω_inv hc rfl
      have := (loopIter_succ _ _ _ _ _ _).symm.trans (loopIter_eq hM hc e (n + 1) (by omega))
      exact absurd ((h.1 n).eq this hc) (by rw [hf]; exact fun q => hc q.symm)
  · obtain ⟨N, hN⟩ := h.2 hf
    exact loopω_of hM hf ((loopIter_succ _ _ _ _ _ _).trans (hN N (Nat.le_refl _)))
end Go.Ab
