/- A function's call, abstract and machine's. -/
import Derived.Test.YtnafklimohmfkaaDoorComm
section
/- A function's call, abstract and machine's. -/
namespace Go.Ab
set_option linter.unusedSimpArgs false
set_option linter.unusedSectionVars false

/-- The result is no panic. -/
def NP (r : Res) : Prop := ∀ v s, r ≠ .panic v s
theorem NP.bind {r : Res} {k kp : AV → St → Res} (h1 : ∀ v s, NP (k v s)) (h2 : ∀ v s, NP (kp v s)) : NP (Res.bind r k kp) := by
  cases r with
  | fail => intro v s h; cases h
  | ok v s => exact h1 v s
  | panic v s => exact h2 v s
theorem NP.fail : NP .fail := fun _ _ h => by cases h
theorem NP.setK : ∀ (d n : Nat) (v : AV) (k : Tr → Res) (fr : Tr), (∀ fr, NP (k fr)) → NP (Tr.setK d n v k fr)
  | 0, n, v, k, fr, h => NP.fail
  | d + 1, n, v, k, .e, h => by
    simp only [Tr.setK]
    cases Nat.beq n 0
    · cases Nat.beq (n % 2) 1
      · exact NP.setK d _ v _ _ (fun _ => h _)
      · exact NP.setK d _ v _ _ (fun _ => h _)
    · exact h _
  | d + 1, n, v, k, .n l x r, h => by
    simp only [Tr.setK]
    cases Nat.beq n 0
    · cases Nat.beq (n % 2) 1
      · exact NP.setK d _ v _ _ (fun _ => h _)
      · exact NP.setK d _ v _ _ (fun _ => h _)
    · exact h _
theorem NP.putK {fr : Tr} {d : Option Nat} {v : AV} {k : Tr → Res} (h : ∀ fr, NP (k fr)) : NP (putK fr d v k) := by
  cases d with
  | none => exact h fr
  | some n => exact NP.setK 12 n v k fr h
theorem NP.runOps {E : Env} (hE : E.F = .not) : ∀ (aos : List AOper) {fr : Tr} {s : St} {fin : Tr → St → Res} {pan : AV → Tr → St → Res}, (∀ fr s, NP (fin fr s)) → (∀ v fr s, NP (pan v fr s)) → NP (runOps E aos fr s fin pan)
  | [], _, _, _, _, h, _ => h _ _
  | o :: os, fr, s, fin, pan, h, hp => by
    simp only [Ab.runOps]
    have key : ∀ w : Bool, NP (bif w then stepOp E fr.get s (fun v s => Ab.putK fr o.dst v fun fr => Ab.runOps E os fr s fin pan) (fun v s => pan v fr s) o.op else Ab.putK fr o.dst (.tup []) fun fr => Ab.runOps E os fr s fin pan) := fun w => by
      cases w with
      | false => exact NP.putK (fun fr => NP.runOps hE os h hp)
      | true =>
        simp only [cond_true]
        rw [stepOp_bind hE]
        exact NP.bind (fun v s => NP.putK (fun fr => NP.runOps hE os h hp)) (fun v s => hp _ _ _)
    unfold wantedK
    split
    · exact key _
    · split
      · exact key _
      · exact key _
      · exact NP.fail
theorem NP.exec {E : Env} (hE : E.F = .not) (hL : ∃ n, ∀ step keep fr s k, E.loop step keep fr s k = loopIter step keep n fr s k) : ∀ (c : ACode) {fr : Tr} {s : St} {k : AX → Tr → St → Res}, (∀ x fr s, NP (k x fr s)) → NP (exec E c fr s k) := by
  intro c
  induction c with
  | skip => exact fun h => h _ _ _
  | region chk ops =>
    intro fr s k h
    cases chk with
    | none => exact NP.runOps hE ops (fun _ _ => h _ _ _) (fun _ _ _ => NP.fail)
    | some chk =>
      simp only [Ab.exec]
      cases chk.all (apartB E.glob fr.get)
      · exact NP.fail
      · exact NP.runOps hE ops (fun _ _ => h _ _ _) (fun _ _ _ => NP.fail)
  | seq a b iha ihb =>
    intro fr s k h
    simp only [Ab.exec]
    refine iha fun x fr s => ?_
    cases x with
    | norm => exact ihb h
    | _ => exact h _ _ _
  | mask m a ih =>
    intro fr s k h
    simp only [Ab.exec]
    obtain ⟨fr', e, _⟩ := maskK_sound m (fun fr => Ab.exec E a fr s k) fr
    rw [e]
    exact ih h
  | cond c a b iha ihb =>
    intro fr s k h
    simp only [Ab.exec]
    split
    · rename_i t _
      cases t
      · exact ihb h
      · exact iha h
    · exact NP.fail
  | block id c ih =>
    intro fr s k h
    simp only [Ab.exec]
    refine ih fun x fr s => ?_
    cases x with
    | exit j => simp only [blockK]; cases Nat.beq j id <;> exact h _ _ _
    | _ => exact h _ _ _
  | loop keep c ih =>
    intro fr s k h
    simp only [Ab.exec]
    obtain ⟨n, hn⟩ := hL
    obtain ⟨fr', e, hx⟩ := maskK_sound keep (fun fr => E.loop (Ab.exec E c) keep fr s k) fr
    rw [e]
    simp only [hn]
    clear hn e hx
    induction n generalizing fr' s with
    | zero => exact NP.fail
    | succ n ihn =>
      simp only [loopIter]
      refine ih fun x fr s => ?_
      cases x with
      | norm =>
        simp only [joinK]
        obtain ⟨fr', e, _⟩ := maskK_sound keep (fun fr => loopIter (Ab.exec E c) keep n fr s k) fr
        rw [e]
        exact ihn (s := s) (fr' := fr')
      | _ => exact h _ _ _
  | exit id => exact fun h => h _ _ _
  | scope c ih =>
    intro fr s k h
    simp only [Ab.exec]
    exact ih h
  | ret => exact fun h => h _ _ _
theorem NP.setArgs : ∀ (vs : List AV) (i : Nat) (fr : Tr) (k : Tr → Res), (∀ fr, NP (k fr)) → NP (setArgs vs i fr k)
  | [], _, fr, _, h => h fr
  | v :: vs, i, fr, k, h => NP.setK 12 i v _ fr (fun fr => NP.setArgs vs (i + 1) fr k h)
theorem NP.finish {fn : AFn} {fr : Tr} {s : St} : NP (finish .not fn fr s) := by
  intro v s' h
  simp only [Ab.finish, Force.not] at h
  split at h
  · split at h
    · cases h
    · split at h
      · split at h <;> cases h
      · cases h
  · cases h
theorem NP.call {T : Nat → Option AFn} {G : Nat → AV} {X : Nat → List AV → St → Res} (hX : ∀ f args s, NP (X f args s)) : ∀ (n f : Nat) (args : List AV) (s : St), NP (call .not T G X n f args s)
  | 0, _, _, _ => NP.fail
  | n + 1, f, args, s => by
    simp only [Ab.call]
    split
    · exact hX _ _ _
    · cases Nat.beq _ _
      · exact NP.fail
      · refine NP.setArgs _ _ _ _ fun fr => NP.exec rfl ⟨_, fun _ _ _ _ _ => rfl⟩ _ fun x fr s => ?_
        cases x with
        | norm => exact NP.finish
        | ret => exact NP.finish
        | _ => exact NP.fail

theorem setArgs_inv {k : Tr → Res} {r : Res} (hf : r ≠ .fail) : ∀ (vs : List AV) (i : Nat) (fr : Tr), setArgs vs i fr k = r → ∃ fr', k fr' = r ∧ ∀ t, fr'.get t = if i ≤ t ∧ t < i + vs.length then vs.getD (t - i) .dead else fr.get t
  | [], i, fr, h => ⟨fr, h, fun t => by rw [if_neg (by rw [List.length_nil]; omega)]⟩
  | v :: vs, i, fr, h => by
    obtain ⟨fr₁, h1, h2⟩ := setK_sound 12 i v _ fr r h hf
    obtain ⟨fr', h3, h4⟩ := setArgs_inv hf vs (i + 1) fr₁ h1
    refine ⟨fr', h3, fun t => ?_⟩
    rw [h4 t]
    by_cases ht : t = i
    · subst ht
      rw [if_neg (by omega), h2, if_pos rfl, if_pos (by simp)]
      simp
    · by_cases hc : i + 1 ≤ t ∧ t < i + 1 + vs.length
      · rw [if_pos hc, if_pos (by simp; omega), show t - i = (t - (i + 1)) + 1 by omega]
        simp
      · rw [if_neg hc, h2, if_neg ht, if_neg (by simp; omega)]
end Go.Ab
end
section
/- A function's call, abstract and machine's: what it hands back. -/
namespace Go.Ab
set_option linter.unusedSimpArgs false
set_option linter.unusedSectionVars false

theorem mapO_inv {α β : Type} {f : α → Option β} : ∀ {xs : List α} {ys : List β}, mapO f xs = some ys → ys.length = xs.length ∧ ∀ (j : Nat) (y : β), ys[j]? = some y → ∃ x, xs[j]? = some x ∧ f x = some y
  | [], ys, h => by
    simp only [mapO, Option.some.injEq] at h
    subst h
    exact ⟨rfl, fun j y hj => by simp at hj⟩
  | x :: xs, ys, h => by
    simp only [mapO] at h
    cases hx : f x with
    | none => rw [hx] at h; cases h
    | some y =>
      rw [hx] at h
      simp only [Option.bind_some] at h
      cases hm : mapO f xs with
      | none => rw [hm] at h; cases h
      | some l =>
        rw [hm] at h
        simp only [Option.map_some, Option.some.injEq] at h
        subst h
        obtain ⟨h1, h2⟩ := mapO_inv hm
        refine ⟨by simp [h1], fun j z hj => ?_⟩
        cases j with
        | zero => simp at hj; subst hj; exact ⟨x, rfl, hx⟩
        | succ j => simpa using h2 j z (by simpa using hj)

theorem run_mapM_list {P : Program} {w : World} {α β : Type} (f : α → Sem β) : ∀ (rs : List α) (xs : List β), xs.length = rs.length → (∀ (j : Nat) (r : α) (x : β), rs[j]? = some r → xs[j]? = some x → (f r).run P w = .ok x w) → (rs.mapM f).run P w = .ok xs w
  | [], [], _, _ => by simp
  | [], _ :: _, h, _ => by simp at h
  | _ :: _, [], h, _ => by simp at h
  | r :: rs, x :: xs, h, hj => by
    have h1 := hj 0 r x rfl rfl
    have h2 := run_mapM_list f rs xs (by simpa using h) (fun j r x hr hx => hj (j + 1) r x (by simpa using hr) (by simpa using hx))
    simp [List.mapM_cons, h1, h2]

section
variable {P : Program} {κ : Kap} {s : St} {w : World}

/-- A frame's own objects no longer change. -/
theorem Sim.freezeOwn (hs : Sim κ s w) : ∀ n, n ≤ s.own.length → ∃ κ' s', Sim κ' s' w ∧ Ext κ s w κ' s' w ∧ s'.up = s.up ∧ s'.ro = s.ro ∧ s'.own.length = s.own.length ∧ (∀ i, n ≤ i → s'.own[i]? = s.own[i]?) ∧ κ'.loc = κ.loc ∧
    ∀ i cs, i < n → s.own[i]? = some (.cells cs) → ∃ C : Array Value, (∀ j (h : j < C.size), κ'.F ⟨κ.loc s.depth i, j, none⟩ = some C[j]) ∧ VRs κ' (s.depth + 1) cs C.toList
  | 0, _ => ⟨κ, s, hs, .refl _ _ _, rfl, rfl, rfl, fun _ _ => rfl, rfl, fun i cs h => absurd h (Nat.not_lt_zero i)⟩
  | n + 1, hn => by
    obtain ⟨κ', s', h1, h2, h3, h4, h5, h6, h7, h8⟩ := hs.freezeOwn n (by omega)
    have hd : s'.depth = s.depth := h2.depth
    by_cases hc : ∃ cs, s.own[n]? = some (.cells cs)
    · obtain ⟨cs, hcs⟩ := hc
      have hg : s'.get (.g s'.depth n) = some (.cells cs) := by
        simp only [St.get, ↓reduceIte]
        rw [h6 n (Nat.le_refl _), hcs]
      obtain ⟨C, e, fz, c1, c2, c3, c4⟩ := h1.freezeObj (s' := { s' with own := s'.own.set n .gone }) hg (by simp [St.set])
      refine ⟨_, _, c3, h2.trans c4, h3, h4, by simp [h5], fun i hi => ?_, h7, fun i cs' hi hi' => ?_⟩
      · simp only
        rw [List.getElem?_set_ne (by omega), h6 i (by omega)]
      · by_cases hin : i = n
        · subst hin
          rw [hcs] at hi'
          simp only [Option.some.injEq, AObj.cells.injEq] at hi'
          subst hi'
          refine ⟨C, fun j hj => ?_, ?_⟩
          · rw [← h7, ← hd]
            exact freeze_at (Nat.zero_le _) hj
          · rw [hd] at c2
            exact ⟨c2.1, fun j c x hc hx => (c2.2 j c x hc hx).mono (c4.k.low (by omega))⟩
        · obtain ⟨C', r1, r2⟩ := h8 i cs' (by omega) hi'
          exact ⟨C', fun j hj => c4.k.F _ _ (r1 j hj), r2.1, fun j c x hc hx => (r2.2 j c x hc hx).mono (c4.k.low (by omega))⟩
    · refine ⟨κ', s', h1, h2, h3, h4, h5, fun i hi => h6 i (by omega), h7, fun i cs' hi hi' => ?_⟩
      by_cases hin : i = n
      · subst hin; exact absurd ⟨cs', hi'⟩ hc
      · exact h8 i cs' (by omega) hi'

theorem frozen_slice {D off len cap sz b : Nat} {cs : List AV} {C : Array Value} (hF : ∀ j (h : j < C.size), κ.F ⟨b, j, none⟩ = some C[j]) (hv : VRs κ D cs C.toList) (hlc : len ≤ cap) (h1 : AV.reflessL (chunk sz len (cs.drop off)) = true) (h2 : off + len * sz ≤ cs.length) (hz : sz ≠ 0) (D' : Nat) :
    VR κ D' (.sl sz (chunk sz len (cs.drop off)) (if len = cap then .exact else .any)) (.slice (some ⟨b, off, none⟩) len cap) := by
  obtain ⟨q1, q2⟩ := chunk_cells sz hz len (cs.drop off) (by simp; omega)
  have hl : C.size = cs.length := by simpa using hv.1
  have key : VR κ D (.sl sz (chunk sz len (cs.drop off)) (if len = cap then Gr.exact else Gr.any)) (.slice (some ⟨b, off, none⟩) (chunk sz len (cs.drop off)).length cap) := by
    refine .sl sz _ _ _ _ (fun j => C.getD (off + j) undef) ?_ (by rw [chunk_length]; exact hlc) (fun _ => rfl) q2 (.inl fun e he => reflessL_iff.1 h1 e he) (fun j hj => ?_) (fun j c hc => ?_)
    · by_cases h : len = cap
      · simp [h, GrOK, chunk_length]
      · simp [h, GrOK]
    · rw [q1] at hj
      simp at hj
      have hlt : off + j < C.size := by omega
      rw [add_spot rfl]
      show κ.F ⟨b, off + j, none⟩ = _
      rw [hF _ hlt]
      simp [Array.getD, hlt]
    · rw [q1, List.getElem?_take] at hc
      split at hc
      · rw [List.getElem?_drop] at hc
        obtain ⟨y, hy, hv'⟩ := hv.get hc
        have : C.getD (off + j) undef = y := by
          have hy' : C[off + j]? = some y := by simpa using hy
          simp [Array.getD_eq_getD_getElem?, hy']
        rw [this]
        exact hv'
      · cases hc
  rw [chunk_length] at key
  refine key.refless ?_ D' (fun _ _ h => h)
  split <;> rfl

theorem freeze1_sound {κ' : Kap} (hk : KLe κ κ' (s.depth + 1)) (hfz : ∀ i cs, s.own[i]? = some (.cells cs) → ∃ C : Array Value, (∀ j (h : j < C.size), κ'.F ⟨κ.loc s.depth i, j, none⟩ = some C[j]) ∧ VRs κ' (s.depth + 1) cs C.toList) {v v' : AV} {x : Value} (hv : VR κ (s.depth + 1) (v.pub s.depth) x) (h : freeze1 s v = some v') : VR κ' s.depth v' x := by
  have own : ∀ {i off len cap sz : Nat}, VR κ (s.depth + 1) (.msl (.g s.depth i) off len cap sz) x → freezeOwn s i off len cap sz = some v' → VR κ' s.depth v' x := fun {i off len cap sz} hv h => by
    obtain ⟨e, hd, hi, hlc⟩ := hv.msl_inv
    unfold Ab.freezeOwn at h
    split at h
    · rename_i cs hcs
      simp only at h
      split at h
      · rename_i hb
        simp only [Bool.and_eq_true, Bool.not_eq_true'] at hb
        simp only [Option.some.injEq] at h
        subst h
        obtain ⟨C, r1, r2⟩ := hfz i cs hcs
        rw [e]
        exact frozen_slice r1 r2 hlc hb.1.1 (Nat.le_of_ble_eq_true hb.1.2) (fun h0 => by rw [h0] at hb; simp at hb) _
      · cases h
    · cases h
  have any : ∀ {sz : Nat} {es : List AV} {l : Loc}, AV.reflessL es = true → VR κ (s.depth + 1) (AV.pub s.depth (.sl sz es (.buf l))) x → VR κ' s.depth (.sl sz es .any) x := fun {sz es l} hrr hv => by
    have h50 := reflessL_iff.1 hrr
    simp only [AV.pub] at hv
    rcases hv.sl_inv with ⟨_, h2, _⟩ | ⟨a, cap, vals, rfl, hg, hn, hs', h4, h5, h6, h7⟩
    · simp [Gr.pub] at h2
    · refine .sl _ _ _ _ _ vals trivial hn hs' h4 (.inl h50) (fun j hj => hk.F _ _ (h6 j hj)) (fun j c hc => (h7 j c hc).refless ?_ _ hk.F)
      obtain ⟨e, he, hce⟩ := List.mem_flatMap.1 (List.mem_of_getElem? hc)
      exact refless_cells (h50 e he) hce
  unfold freeze1 at h
  split at h
  · exact own hv h
  · split at h
    · rename_i hd
      subst hd
      exact own hv h
    · split at h
      · rename_i hlt
        simp only [Option.some.injEq] at h
        subst h
        obtain ⟨e, hd, hi, hlc⟩ := VR.msl_inv hv
        rw [e, ← hk.loc _ _ hd hi]
        exact .msl _ _ _ _ _ _ hlt (Nat.lt_of_lt_of_le hi (hk.n _ hd)) hlc
      · cases h
  · split at h
    · rename_i hlt
      simp only [Option.some.injEq] at h
      subst h
      obtain ⟨e, hd, hi⟩ := VR.ref_inv hv
      rw [e, ← hk.loc _ _ hd hi]
      exact .ref _ _ _ hlt (Nat.lt_of_lt_of_le hi (hk.n _ hd))
    · cases h
  · split at h
    · rename_i hrr
      simp only [Option.some.injEq] at h
      subst h
      exact any hrr hv
    · cases h
  · split at h
    · rename_i hlt
      simp only [Option.some.injEq] at h
      subst h
      have hv : VR κ (s.depth + 1) (.sl _ _ (.buf (.g _ _))) x := hv
      rcases hv.sl_inv with ⟨_, h2, _⟩ | ⟨a, cap, vals, rfl, hg, hn, hs', h4, h5, h6, h7⟩
      · cases h2
      · refine .sl _ _ _ _ _ vals ⟨hlt, (hg.mono hk).2⟩ hn hs' h4 h5 (fun j hj => hk.F _ _ (h6 j hj)) (fun j c hc => ?_)
        obtain ⟨e, he, hce⟩ := List.mem_flatMap.1 (List.mem_of_getElem? hc)
        rcases h5 with h5 | ⟨d', i', e', h5⟩
        · exact (h7 j c hc).refless (refless_cells (h5 e he) hce) _ hk.F
        · cases e'
          exact (((h7 j c hc).mono hk).lower (low_cells (h5 e he) hce)).up hlt
    · split at h
      · rename_i hrr
        simp only [Option.some.injEq] at h
        subst h
        exact any hrr hv
      · cases h
  · split at h
    · rename_i hlt
      simp only [Option.some.injEq] at h
      subst h
      have hv : VR κ (s.depth + 1) (.map (.g _ _)) x := hv
      cases hv
      rename_i hd hi
      rw [← hk.loc _ _ hd hi]
      exact .map _ _ hlt (Nat.lt_of_lt_of_le hi (hk.n _ hd))
    · cases h
  · split at h
    · rename_i hr
      simp only [Option.some.injEq] at h
      subst h
      rw [refless_pub hr] at hv
      exact hv.refless hr _ hk.F
    · cases h

theorem freeze_sound {κ' : Kap} (hk : KLe κ κ' (s.depth + 1)) (hfz : ∀ i cs, s.own[i]? = some (.cells cs) → ∃ C : Array Value, (∀ j (h : j < C.size), κ'.F ⟨κ.loc s.depth i, j, none⟩ = some C[j]) ∧ VRs κ' (s.depth + 1) cs C.toList) {v v' : AV} {x : Value} (hv : VR κ (s.depth + 1) (v.pub s.depth) x) (h : freeze s v = some v') : VR κ' s.depth v' x := by
  unfold freeze at h
  split at h
  · rename_i cs
    cases hm : mapO (freeze1 s) cs with
    | none => rw [hm] at h; cases h
    | some l =>
      rw [hm] at h
      simp only [Option.map_some, Option.some.injEq] at h
      subst h
      obtain ⟨xs, rfl, hl, hx⟩ := VR.agg_inv (cs := cs) hv
      obtain ⟨h1, h2⟩ := mapO_inv hm
      refine .agg l xs (by rw [hl, h1]) (fun j c y hc hy => ?_)
      obtain ⟨c0, q1, q2⟩ := h2 j c hc
      have := hx j c0 y q1 hy
      exact freeze1_sound hk hfz (by rw [this.pub_eq]; exact this) q2
  · exact freeze1_sound hk hfz hv h

def okRes (T : TT) : ARes → ResultVar → Bool
  | .t n, .tmp m => Nat.beq n m
  | .cell a n, .cell b ty => Nat.beq a b && T.load ty n
  | _, _ => false
def okRess (T : TT) : List ARes → List ResultVar → Bool
  | [], [] => true
  | a :: as, b :: bs => okRes T a b && okRess T as bs
  | _, _ => false
theorem okRess_sound {T : TT} : ∀ {as : List ARes} {bs : List ResultVar}, okRess T as bs = true → as.length = bs.length ∧ ∀ (j : Nat) (a : ARes) (b : ResultVar), as[j]? = some a → bs[j]? = some b → okRes T a b = true
  | [], [], _ => ⟨rfl, fun j a b h => by simp at h⟩
  | [], _ :: _, h => by simp [okRess] at h
  | _ :: _, [], h => by simp [okRess] at h
  | a :: as, b :: bs, h => by
    simp only [okRess, Bool.and_eq_true] at h
    obtain ⟨h1, h2⟩ := okRess_sound h.2
    refine ⟨by simp [h1], fun j a' b' ha hb => ?_⟩
    cases j with
    | zero => simp at ha hb; subst ha; subst hb; exact h.1
    | succ j => exact h2 j a' b' (by simpa using ha) (by simpa using hb)

theorem res_sound {T : TT} (hT : T.OK P) {nt : Nat} {G : Nat → AV} {fr : Tr} {a : Act} (h : Run κ s w fr.get a nt G) {rv : ARes} {b : ResultVar} (hok : okRes T rv b = true) {v : AV} (hv : resV fr s rv = some v) :
    ∃ x, (∀ f : ResultVar → Sem Value, (∀ t, f (.tmp t) = Pure.pure (a.tmps.getD t undef)) → (∀ t ty, f (.cell t ty) = (do loadVar ty (← asAddr (a.tmps.getD t undef)) : Sem Value)) → (f b).run P w = .ok x w) ∧ VR κ (s.depth + 1) (v.pub s.depth) x := by
  cases rv with
  | t n =>
    cases b with
    | cell t ty => simp [okRes] at hok
    | tmp m =>
      simp only [okRes] at hok
      have := Nat.eq_of_beq_eq_true hok
      subst this
      simp only [resV, Option.some.injEq] at hv
      subst hv
      exact ⟨_, fun f h1 _ => by rw [h1]; simp, h.fr n⟩
  | cell t n =>
    cases b with
    | tmp m => simp [okRes] at hok
    | cell m ty =>
      simp only [okRes, Bool.and_eq_true] at hok
      have := Nat.eq_of_beq_eq_true hok.1
      subst this
      have hx := h.fr t
      simp only [resV] at hv
      split at hv
      · rename_i al off hal
        rw [hal] at hx
        simp only [AV.pub] at hx
        rw [← St.get_pub] at hv
        cases hp : al.pub s.depth with
        | l i => cases al <;> simp [Loc.pub] at hp
        | g d i =>
          rw [hp] at hx hv
          obtain ⟨e, hd, hi⟩ := hx.ref_inv
          have key : ∀ cs, s.get (.g d i) = some (.cells cs) → loadV { F := .not, glob := G, call := fun _ _ _ => .fail, loop := fun _ _ _ _ _ => .fail } s .ok n (cs.drop off) = .ok v s → ∃ x, (∀ f : ResultVar → Sem Value, (∀ t, f (.tmp t) = Pure.pure (a.tmps.getD t undef)) → (∀ t ty, f (.cell t ty) = (do loadVar ty (← asAddr (a.tmps.getD t undef)) : Sem Value)) → (f (.cell t ty)).run P w = .ok x w) ∧ VR κ (s.depth + 1) (v.pub s.depth) x := fun cs hg hl => by
            obtain ⟨v1, x, q1, q2, q3⟩ := load_any (P := P) (reads_up (reads_obj h.sim hg off) (show d + 1 ≤ s.depth + 1 by omega)) (hT.load hok.2) rfl hl (by simp)
            simp only [Res.ok.injEq] at q1
            obtain ⟨rfl, _⟩ := q1
            refine ⟨x, fun f _ h2 => ?_, by rw [q3.pub_eq]; exact q3⟩
            rw [h2, e]
            simp [asAddr, q2]
          split at hv
          · rename_i cs hg
            refine key cs hg ?_
            simp only [loadV, Force.not]
            cases hdr : cs.drop off with
            | nil =>
              have : (cs.drop off)[0]? = some v := by rw [List.getElem?_drop]; simpa using hv
              rw [hdr] at this
              cases this
            | cons c l =>
              have : (cs.drop off)[0]? = some v := by rw [List.getElem?_drop]; simpa using hv
              rw [hdr] at this
              simp only [List.getElem?_cons_zero, Option.some.injEq] at this
              subst this
              rfl
          · rename_i cs m hg
            split at hv
            · rename_i hle
              simp only [Option.some.injEq] at hv
              subst hv
              refine key cs hg ?_
              have := Nat.le_of_ble_eq_true hle
              have hb : Nat.ble m (cs.drop off).length = true := by
                rw [Nat.ble_eq]
                simp
                omega
              simp only [loadV, Force.not, hb, cond_true]
            · cases hv
          · cases hv
      · cases hv
end
end Go.Ab
end
section
/- A function's call, abstract and machine's: the whole. -/
namespace Go.Ab
set_option linter.unusedSimpArgs false
set_option linter.unusedSectionVars false

/-- Is the abstract function the machine's? -/
def okFn (T : TT) (afn : AFn) (fn : Func) : Bool :=
  match fn.body with
  | some c => !(fn.name == "runtime.NumGoroutine") && Nat.beq afn.nt fn.ntmps && Nat.ble afn.np fn.ntmps && okRess T afn.results fn.results.toList && okCode T afn.nt afn.body c
  | none => false
def TabOK (P : Program) (T : TT) (Tab : Nat → Option AFn) : Prop := ∀ f afn, Tab f = some afn → ∃ fn, P.funcs[f]? = some fn ∧ okFn T afn fn = true
structure XOK (P : Program) (Tab : Nat → Option AFn) (G : Nat → AV) (X : Nat → List AV → St → Res) : Prop where
  nopanic : ∀ f args s, NP (X f args s)
  ok : ∀ f args s v s' κ w xs, Tab f = none → X f args s = .ok v s' → Sim κ s w → GOK κ G → VRs κ (s.depth + 1) args xs →
    (∃ x w', (callFunc f xs.toArray).run P w = .ok (.value x) w' ∧ After κ s w v s' x w') ∨
    ((callFunc f xs.toArray).run P w = .ok (.enter f xs.toArray) w ∧ Calls P f xs.toArray w fun e w' => ∃ x, e = .returned x ∧ After κ s w v s' x w')

section
variable {P : Program} {κ : Kap} {s : St} {w : World}

theorem tup_sound {κ : Kap} {D : Nat} {vs : List AV} {xs : List Value} (h : VRs κ D vs xs) : VR κ D (tupV vs) (if h : xs.toArray.size = 1 then xs.toArray[0] else .tuple xs.toArray) := by
  match vs, xs, h with
  | [v], [x], h => exact h.2 0 v x rfl rfl
  | [], xs, h =>
    have : xs = [] := List.eq_nil_of_length_eq_zero h.1
    subst this
    exact .tup [] [] rfl (fun j c x hc => by simp at hc)
  | v :: v2 :: vs, xs, h =>
    have hl : xs.length = vs.length + 2 := by rw [h.1]; rfl
    rw [dif_neg (by simp; omega)]
    exact .tup _ xs h.1 h.2
  | [v], [], h => exact absurd h.1 (by simp)
  | [v], _ :: _ :: _, h => exact absurd h.1 (by simp)

/-- A function's results in the machine. -/
theorem results_vals {T : TT} (hT : T.OK P) {nt : Nat} {G : Nat → AV} {fr : Tr} {a : Act} (h : Run κ s w fr.get a nt G) {afn : AFn} {fn : Func} (hok : okRess T afn.results fn.results.toList = true) {vs : List AV} (hvs : mapO (resV fr s) afn.results = some vs) :
    ∃ xs : List Value, (results fn a.tmps).run P w = .ok (if h : xs.toArray.size = 1 then xs.toArray[0] else .tuple xs.toArray) w ∧ VRs κ (s.depth + 1) (vs.map (AV.pub s.depth)) xs := by
  obtain ⟨hl1, hr1⟩ := mapO_inv hvs
  obtain ⟨hl3, hr3⟩ := okRess_sound hok
  have hval : ∀ (j : Nat) (b : ResultVar), fn.results.toList[j]? = some b → ∃ x, (∀ f : ResultVar → Sem Value, (∀ t, f (.tmp t) = Pure.pure (a.tmps.getD t undef)) → (∀ t ty, f (.cell t ty) = (do loadVar ty (← asAddr (a.tmps.getD t undef)) : Sem Value)) → (f b).run P w = .ok x w) ∧ ∀ v, vs[j]? = some v → VR κ (s.depth + 1) (v.pub s.depth) x := fun j b hb => by
    have hj := (List.getElem?_eq_some_iff.1 hb).1
    have hja : j < afn.results.length := by rw [hl3]; exact hj
    have hjv : j < vs.length := by rw [hl1]; exact hja
    obtain ⟨rv, e1, e2⟩ := hr1 j vs[j] (List.getElem?_eq_getElem hjv)
    obtain ⟨x, e3, e4⟩ := res_sound hT h (hr3 j rv b e1 hb) e2
    refine ⟨x, e3, fun v hv => ?_⟩
    rw [List.getElem?_eq_getElem hjv] at hv
    simp only [Option.some.injEq] at hv
    subst hv
    exact e4
  have hxs : ∃ xs : List Value, xs.length = fn.results.toList.length ∧ ∀ (j : Nat) (b : ResultVar) (x : Value), fn.results.toList[j]? = some b → xs[j]? = some x → (∀ f : ResultVar → Sem Value, (∀ t, f (.tmp t) = Pure.pure (a.tmps.getD t undef)) → (∀ t ty, f (.cell t ty) = (do loadVar ty (← asAddr (a.tmps.getD t undef)) : Sem Value)) → (f b).run P w = .ok x w) ∧ ∀ v, vs[j]? = some v → VR κ (s.depth + 1) (v.pub s.depth) x := by
    refine ⟨(List.range fn.results.toList.length).map fun j => if hj : j < fn.results.toList.length then Classical.choose (hval j _ (List.getElem?_eq_getElem hj)) else undef, by simp, fun j b x hb hx => ?_⟩
    have hj := (List.getElem?_eq_some_iff.1 hb).1
    have hb' : fn.results.toList[j] = b := (List.getElem?_eq_some_iff.1 hb).2
    simp only [List.getElem?_map, List.getElem?_range hj, Option.map_some, Option.some.injEq] at hx
    rw [dif_pos hj] at hx
    have := Classical.choose_spec (hval j _ (List.getElem?_eq_getElem hj))
    rw [hx, hb'] at this
    exact this
  obtain ⟨xs, hxl, hx⟩ := hxs
  refine ⟨xs, ?_, by rw [hxl, List.length_map, hl1, hl3], fun j c x hc hx' => ?_⟩
  · unfold results
    rw [Array.mapM_eq_mapM_toList]
    have := fun f h1 h2 => run_mapM_list (P := P) (w := w) f fn.results.toList xs hxl (fun j r x hr hx' => (hx j r x hr hx').1 f h1 h2)
    rw [map_eq_pure_bind, Sem.run_bind, Sem.run_bind, this]
    · rfl
    · intro t; rfl
    · intro t ty; rfl
  · have hj : j < fn.results.toList.length := by rw [← hxl]; exact (List.getElem?_eq_some_iff.1 hx').1
    rw [List.getElem?_map] at hc
    cases hvj : vs[j]? with
    | none => rw [hvj] at hc; cases hc
    | some v =>
      rw [hvj] at hc
      simp only [Option.map_some, Option.some.injEq] at hc
      subst hc
      exact (hx j _ x (List.getElem?_eq_getElem hj) hx').2 v hvj

/-- What a function hands back, and the frame it leaves. -/
theorem finish_sound {T : TT} (hT : T.OK P) {nt : Nat} {G : Nat → AV} {fr : Tr} {a : Act} (h : Run κ s w fr.get a nt G) {afn : AFn} {fn : Func} (hk : afn.keep = false) (hok : okRess T afn.results fn.results.toList = true) {v : AV} {s' : St} (hf : finish .not afn fr s = .ok v s') :
    ∃ x κ' s'' own, (results fn a.tmps).run P w = .ok x w ∧ s.up = own :: s'.up ∧ s' = { own, up := s'.up, ro := s.ro } ∧ s''.up = s.up ∧ s''.ro = s.ro ∧ Ext κ s w κ' s'' w ∧ Sim κ' s'' w ∧ VR κ' s.depth v x := by
  simp only [finish, hk, Force.not, Bool.false_eq_true, ↓reduceIte] at hf
  cases hvs : mapO (resV fr s) afn.results with
  | none => rw [hvs] at hf; cases hf
  | some vs =>
    rw [hvs] at hf
    simp only at hf
    cases hfs : mapO (freeze s) vs with
    | none => rw [hfs] at hf; cases hf
    | some fs =>
      rw [hfs] at hf
      simp only at hf
      cases hup : s.up with
      | nil => rw [hup] at hf; cases hf
      | cons own up =>
        rw [hup] at hf
        simp only [Res.ok.injEq] at hf
        obtain ⟨rfl, rfl⟩ := hf
        obtain ⟨hl2, hr2⟩ := mapO_inv hfs
        obtain ⟨κ', s'', q1, q2, q3, q4, q5, q6, q7, q8⟩ := h.sim.freezeOwn s.own.length (Nat.le_refl _)
        have hfz : ∀ i cs, s.own[i]? = some (.cells cs) → ∃ C : Array Value, (∀ j (h : j < C.size), κ'.F ⟨κ.loc s.depth i, j, none⟩ = some C[j]) ∧ VRs κ' (s.depth + 1) cs C.toList := fun i cs hi => q8 i cs (List.getElem?_eq_some_iff.1 hi).1 hi
        obtain ⟨xs, hrun, hx⟩ := results_vals hT h hok hvs
        refine ⟨_, κ', s'', own, hrun, rfl, rfl, by rw [q3, hup], q4, q2, q1, ?_⟩
        refine tup_sound ⟨by rw [hx.1, List.length_map, hl2], fun j c x hc hx' => ?_⟩
        obtain ⟨v0, e1, e2⟩ := hr2 j c hc
        exact freeze_sound q2.k hfz (hx.2 j _ x (by rw [List.getElem?_map, e1]; rfl) hx') e2

/-- What a function that runs in its caller's frame hands back. -/
theorem finish_keep {T : TT} (hT : T.OK P) {nt : Nat} {G : Nat → AV} {fr : Tr} {a : Act} (h : Run κ s w fr.get a nt G) {afn : AFn} {fn : Func} (hk : afn.keep = true) (hok : okRess T afn.results fn.results.toList = true) {v : AV} {s' : St} (hf : finish .not afn fr s = .ok v s') :
    ∃ x, (results fn a.tmps).run P w = .ok x w ∧ s' = s ∧ VR κ (s.depth + 1) (v.pub s.depth) x := by
  simp only [finish, hk, Force.not, ↓reduceIte] at hf
  cases hvs : mapO (resV fr s) afn.results with
  | none => rw [hvs] at hf; cases hf
  | some vs =>
    rw [hvs] at hf
    simp only [Res.ok.injEq] at hf
    obtain ⟨rfl, rfl⟩ := hf
    obtain ⟨xs, hrun, hx⟩ := results_vals hT h hok hvs
    refine ⟨_, hrun, rfl, ?_⟩
    have := tup_sound hx
    rw [this.pub_eq]
    exact this

variable (hm : P.follows .mixedOrders = true) {T : TT} (hT : T.OK P) {Tab : Nat → Option AFn} (hTab : TabOK P T Tab) {G : Nat → AV} {X : Nat → List AV → St → Res} (hX : XOK P Tab G X)
include hm hT hTab hX

/-- The evaluator's calls are the machine's. -/
theorem call_ok : ∀ n m, CallOK P { F := .not, glob := G, call := call .not Tab G X n, loop := fun step keep fr s k => loopIter step keep m fr s k }
  | 0, m => ⟨⟨m, fun _ _ _ _ _ => rfl⟩, fun f args s v s' h => (by simp [call] at h), fun f args s v s' κ w xs h => (by simp [call] at h)⟩
  | n + 1, m => by
    refine ⟨⟨m, fun _ _ _ _ _ => rfl⟩, fun f args s => NP.call hX.nopanic (n + 1) f args s, fun f args s v s' κ w xs h hs hG hargs => ?_⟩
    simp only at h hG
    simp only [call] at h
    cases hf : Tab f with
    | none =>
      rw [hf] at h
      exact hX.ok f args s v s' κ w xs hf h hs hG hargs
    | some afn =>
      rw [hf] at h
      simp only at h
      obtain ⟨fn, hfn, hok⟩ := hTab f afn hf
      unfold okFn at hok
      cases hbody : fn.body with
      | none => rw [hbody] at hok; cases hok
      | some c =>
        rw [hbody] at hok
        simp only [Bool.and_eq_true, Bool.not_eq_true'] at hok
        obtain ⟨⟨⟨⟨o1, o2⟩, o3⟩, o5⟩, o6⟩ := hok
        have hnt : afn.nt = fn.ntmps := Nat.eq_of_beq_eq_true o2
        have hnp := Nat.le_of_ble_eq_true o3
        obtain ⟨hlen, h⟩ := bif_cases h (by simp)
        have hlen := Nat.eq_of_beq_eq_true hlen
        have o1' : ¬ fn.name = "runtime.NumGoroutine" := by simpa using o1
        refine .inr ⟨by simp [callFunc, hfn, o1', hbody], ?_⟩
        cases o4 : afn.keep with
        | true =>
          rw [o4] at h
          simp only [↓reduceIte] at h
          obtain ⟨fr, hex, hget⟩ := setArgs_inv (by simp) _ _ _ h
          have hC := call_ok n n
          have hxl : xs.length = args.length := hargs.1
          have hrun : Run κ s w fr.get { tmps := xs.toArray ++ Array.replicate (fn.ntmps - xs.toArray.size) undef, defers := [] } afn.nt G := by
            refine ⟨hs, fun t => ?_, rfl, ?_, hG⟩
            · rw [hget t]
              split
              · rename_i ht
                have ht' : t < args.length := by omega
                have e1 : args[t]? = some args[t] := List.getElem?_eq_getElem ht'
                have e2 : xs[t]? = some xs[t] := List.getElem?_eq_getElem (by omega)
                have hv := hargs.2 t _ _ e1 e2
                have e3 : (xs.toArray ++ Array.replicate (fn.ntmps - xs.toArray.size) undef).getD t undef = xs[t] := by
                  rw [Array.getD_eq_getD_getElem?, Array.getElem?_append_left (by simp; omega)]
                  simp [e2]
                rw [e3, Nat.sub_zero, List.getD_eq_getElem?_getD, e1, Option.getD_some, hv.pub_eq]
                exact hv
              · exact .dead _
            · simp
              omega
          refine calls_of_wp hfn hbody (wp_mono (exec_sound hm hT rfl hC afn.body c (hnt ▸ o6) (by simp) hrun hex) fun e a' w' hp => ?_)
          obtain ⟨x, κ₂, s₂, fr', hx, he, hr, hk⟩ := hp
          have key : finish .not afn fr' s₂ = .ok v s' → a'.defers = [] ∧ ∃ y, (results fn a'.tmps).run P w' = .ok y w' ∧ ∃ x, Ending.returned y = .returned x ∧ After κ s w v s' x w' := fun hk => by
            refine ⟨hr.defers, ?_⟩
            obtain ⟨y, r1, r2, r3⟩ := finish_keep hT hr o4 o5 hk
            subst r2
            refine ⟨y, r1, y, rfl, κ₂, he, hr.sim, ?_⟩
            rw [he.depth] at r3
            exact r3
          cases hx with
          | norm => exact key hk
          | exit i => cases hk
          | ret => exact key hk
        | false =>
          rw [o4] at h
          simp only [Bool.false_eq_true, ↓reduceIte] at h
          obtain ⟨fr, hex, hget⟩ := setArgs_inv (by simp) _ _ _ h
          obtain ⟨κ₁, p1, p2, p3, p4⟩ := hs.push
          have hC := call_ok n n
          have hxl : xs.length = args.length := hargs.1
          have hrun : Run κ₁ s.push w fr.get { tmps := xs.toArray ++ Array.replicate (fn.ntmps - xs.toArray.size) undef, defers := [] } afn.nt G := by
            refine ⟨p1, fun t => ?_, rfl, ?_, hG.mono p2⟩
            · rw [hget t]
              split
              · rename_i ht
                have ht' : t < args.length := by omega
                have e1 : args[t]? = some args[t] := List.getElem?_eq_getElem ht'
                have e2 : xs[t]? = some xs[t] := List.getElem?_eq_getElem (by omega)
                have hv := hargs.2 t _ _ e1 e2
                have e3 : (xs.toArray ++ Array.replicate (fn.ntmps - xs.toArray.size) undef).getD t undef = xs[t] := by
                  rw [Array.getD_eq_getD_getElem?, Array.getElem?_append_left (by simp; omega)]
                  simp [e2]
                rw [e3, Nat.sub_zero, List.getD_eq_getElem?_getD, e1, Option.getD_some, hv.pub_eq]
                exact (hv.mono p2).up (by rw [St.push_depth]; omega)
              · exact .dead _
            · simp
              omega
          refine calls_of_wp hfn hbody (wp_mono (exec_sound hm hT rfl hC afn.body c (hnt ▸ o6) (by simp) hrun hex) fun e a' w' hp => ?_)
          obtain ⟨x, κ₂, s₂, fr', hx, he, hr, hk⟩ := hp
          have key : finish .not afn fr' s₂ = .ok v s' → a'.defers = [] ∧ ∃ y, (results fn a'.tmps).run P w' = .ok y w' ∧ ∃ x, Ending.returned y = .returned x ∧ After κ s w v s' x w' := fun hk => by
            refine ⟨hr.defers, ?_⟩
            obtain ⟨y, κ₃, s₃, own, r1, r2, r3, r4, r5, r6, r7, r8⟩ := finish_sound hT hr o4 o5 hk
            refine ⟨y, r1, y, rfl, κ₃, ?_, ?_, ?_⟩
            · -- the frame is gone
              have hE := he.trans r6
              have hs3 : s' = { own, up := s'.up, ro := s₃.ro } := by rw [r5]; exact r3
              have hup : s₃.up = own :: s'.up := by rw [r4, r2]
              have hd : s'.depth = s.depth := by
                have h1 := hE.depth
                rw [St.push_depth] at h1
                have h2 : s₃.depth = s'.depth + 1 := by
                  rw [hs3]
                  simp only [St.depth, hup, List.length_cons]
                  omega
                omega
              have hlive : ∀ b, Live κ₁ s.push b ↔ Live κ s b := fun b => by
                constructor
                · rintro ⟨d, i, o, g1, g2⟩
                  rw [St.push_get] at g1
                  exact ⟨d, i, o, g1, by rw [← p4 d i o g1]; exact g2⟩
                · rintro ⟨d, i, o, g1, g2⟩
                  exact ⟨d, i, o, by rw [St.push_get]; exact g1, by rw [p4 d i o g1]; exact g2⟩
              refine ⟨p2.trans (hE.k.low (by rw [St.push_depth]; omega)), hd, hE.size, hE.os, hE.tape, hE.output, fun b hb hl => hE.chg b hb (fun hl' => hl ((hlive b).1 hl')), fun b hb hl => ?_, fun a ha => ?_⟩
              · refine (hlive b).1 (hE.live b hb ?_)
                obtain ⟨d, i, o, g1, g2⟩ := hl
                rw [hs3] at g1
                exact ⟨d, i, o, St.pop_get hup g1, g2⟩
              · rcases hE.frz a ha with q | q | q
                · rw [p3] at q; exact .inl q
                · exact .inr (.inl q)
                · exact .inr (.inr ((hlive _).1 q))
            · have hs3 : s' = { own, up := s'.up, ro := s₃.ro } := by rw [r5]; exact r3
              rw [hs3]
              exact r7.pop (by rw [r4, r2])
            · have hd : s₂.depth = s.depth + 1 := by rw [he.depth, St.push_depth]
              rw [hd] at r8
              rw [r8.pub_eq]
              exact r8
          cases hx with
          | norm => exact key hk
          | exit i => cases hk
          | ret => exact key hk
end
end Go.Ab
end
section
/- From the evaluator to a call from outside: every cell that there is is read only; there is no mutable object. -/
namespace Go.Ab
set_option linter.unusedSimpArgs false

def noSt : St := { own := [], up := [], ro := [] }
def initKap (w : World) : Kap := { F := fun a => if a.spot = none then w.cell? a else none, n := fun _ => 0, loc := fun _ _ => 0, tk := fun _ _ _ => none }

theorem Sim.init (w : World) : Sim (initKap w) noSt w := by
  have hno : ∀ d i, noSt.get (.g d i) = none := by intro d i; simp [St.get, noSt]
  refine ⟨fun a v h => ?_, fun d l h => ?_, fun d i o h => ?_, fun d i o d' i' o' b h => ?_⟩
  · simp only [initKap] at h
    split at h
    · rename_i hs; exact ⟨hs, h⟩
    · cases h
  · unfold St.fr noSt at h
    simp at h
    simp [h, initKap]
  · rw [hno] at h; cases h
  · rw [hno] at h; cases h

/-- What a call from outside leaves: what there was is as it was. -/
structure Left (w w' : World) : Prop where
  size : w.heap.size ≤ w'.heap.size
  os : w'.os = w.os
  tape : w'.tape = w.tape
  output : w'.output = w.output
  old : ∀ b, b < w.heap.size → w'.heap[b]? = w.heap[b]?

theorem Ext.left {w w' : World} {κ' : Kap} {s' : St} (h : Ext (initKap w) noSt w κ' s' w') : Left w w' :=
  ⟨h.size, h.os, h.tape, h.output, fun b hb => h.chg b hb (fun ⟨d, i, o, hg, _⟩ => by simp [St.get, noSt] at hg)⟩

section
variable {P : Program} (hm : P.follows .mixedOrders = true) {T : TT} (hT : T.OK P) {Tab : Nat → Option AFn} (hTab : TabOK P T Tab) {G : Nat → AV} {X : Nat → List AV → St → Res} (hX : XOK P Tab G X)
include hm hT hTab hX
theorem calls_init {n f : Nat} {args : List AV} {s' : St} {w : World} {xs : List Value} (h : call .not Tab G X n f args noSt = .ok (.bool true) s') (hf : Tab f ≠ none) (hG : GOK (initKap w) G) (hx : VRs (initKap w) 1 args xs) :
    Calls P f xs.toArray w fun e w' => e = .returned (.bool true) ∧ Left w w' := by
  have hfn : ∃ fn, P.funcs[f]? = some fn ∧ fn.body.isSome = true ∧ (fn.name == "runtime.NumGoroutine") = false := by
    cases ht : Tab f with
    | none => exact absurd ht hf
    | some afn =>
      obtain ⟨fn, h1, h2⟩ := hTab f afn ht
      unfold okFn at h2
      cases hb : fn.body with
      | none => rw [hb] at h2; cases h2
      | some c =>
        rw [hb] at h2
        simp only [Bool.and_eq_true, Bool.not_eq_true'] at h2
        exact ⟨fn, h1, by simp [hb], h2.1.1.1.1⟩
  have hdone : ∀ x w', After (initKap w) noSt w (.bool true) s' x w' → x = .bool true ∧ Left w w' := fun x w' ⟨κ', h1, _, h3⟩ => by
    exact ⟨VR.bool_inv (b := true) h3, h1.left⟩
  rcases (call_ok hm hT hTab hX n 0).ok f args noSt _ s' (initKap w) w xs h (Sim.init w) hG hx with ⟨x, w', h1, h2⟩ | ⟨h1, h2⟩
  · obtain ⟨fn, q1, q2, q3⟩ := hfn
    exfalso
    have q3' : ¬ fn.name = "runtime.NumGoroutine" := by simpa using q3
    cases hb : fn.body with
    | none => rw [hb] at q2; cases q2
    | some c => simp [callFunc, q1, q3', hb] at h1
  · exact h2.mono fun e w' ⟨x, he, hA⟩ => by
      obtain ⟨e1, e2⟩ := hdone x w' hA
      exact ⟨by rw [he, e1], e2⟩
end
end Go.Ab
end
section
/- The evaluator without a bound on its rounds: what it gives some bound gives. -/
namespace Go.Ab
set_option linter.unusedSimpArgs false
set_option linter.unusedSectionVars false
open Classical

def Le (a b : Res) : Prop := a = .fail ∨ a = b
theorem Le.refl (a : Res) : Le a a := .inr rfl
theorem Le.eq {a b r : Res} (h : Le a b) (ha : a = r) (hr : r ≠ .fail) : b = r := by
  rcases h with h | h
  · exact absurd (ha.symm.trans h) hr
  · exact h ▸ ha

/-- A row of results comes to one. -/
def Lim (a : Nat → Res) (b : Res) : Prop := (∀ n, Le (a n) b) ∧ (b ≠ .fail → ∃ N, ∀ n, N ≤ n → a n = b)
theorem Lim.const (a : Res) : Lim (fun _ => a) a := ⟨fun _ => .refl _, fun _ => ⟨0, fun _ _ => rfl⟩⟩
theorem Lim.of_eq {a : Nat → Res} {b : Res} (h : ∀ n, a n = b) : Lim a b := ⟨fun n => .inr (h n), fun _ => ⟨0, fun n _ => h n⟩⟩
theorem Lim.fail : Lim (fun _ => .fail) .fail := .const _
theorem Lim.bind {a : Nat → Res} {b : Res} (h : Lim a b) {k kp : Nat → AV → St → Res} {l lp : AV → St → Res} (hk : ∀ v s, Lim (fun n => k n v s) (l v s)) (hp : ∀ v s, Lim (fun n => kp n v s) (lp v s)) : Lim (fun n => Res.bind (a n) (k n) (kp n)) (Res.bind b l lp) := by
  refine ⟨fun n => ?_, fun hb => ?_⟩
  · rcases h.1 n with e | e
    · left; simp only [e]; rfl
    · simp only [e]
      cases b with
      | fail => exact .refl _
      | ok v s => exact (hk v s).1 n
      | panic v s => exact (hp v s).1 n
  · cases hbb : b with
    | fail => rw [hbb] at hb; exact absurd rfl hb
    | ok v s =>
      rw [hbb] at hb h
      obtain ⟨N, hN⟩ := h.2 (by simp)
      obtain ⟨M, hM⟩ := (hk v s).2 hb
      exact ⟨max N M, fun n hn => by show Res.bind (a n) _ _ = _; rw [hN n (by omega)]; exact hM n (by omega)⟩
    | panic v s =>
      rw [hbb] at hb h
      obtain ⟨N, hN⟩ := h.2 (by simp)
      obtain ⟨M, hM⟩ := (hp v s).2 hb
      exact ⟨max N M, fun n hn => by show Res.bind (a n) _ _ = _; rw [hN n (by omega)]; exact hM n (by omega)⟩

def KLim (k : Nat → KK) (l : KK) : Prop := ∀ x fr s, Lim (fun n => k n x fr s) (l x fr s)
def StepLim (st : Nat → SS) (su : SS) : Prop := ∀ fr s k l, KLim k l → Lim (fun n => st n fr s (k n)) (su fr s l)
def StepMono (st : SS) : Prop := ∀ fr s k l, (∀ x fr s, Le (k x fr s) (l x fr s)) → Le (st fr s k) (st fr s l)
theorem StepLim.mono {st : SS} (h : StepLim (fun _ => st) st) : StepMono st := fun fr s k l hk => by
  have := h fr s (fun n => if n = 0 then k else l) l (fun x fr s => ⟨fun n => by
    simp only
    split
    · exact hk x fr s
    · exact .refl _, fun _ => ⟨1, fun n hn => by simp [show n ≠ 0 by omega]⟩⟩)
  simpa using this.1 0

def Tr.mask : Mk → Tr → Tr
  | .e, _ => .e
  | .n ml _ mr, .e => .n (Tr.mask ml .e) .dead (Tr.mask mr .e)
  | .n ml b mr, .n l v r => .n (Tr.mask ml l) (bif b then v else .dead) (Tr.mask mr r)
theorem maskK_eq : ∀ (m : Mk) (k : Tr → Res) (fr : Tr), Tr.maskK m k fr = k (Tr.mask m fr)
  | .e, k, fr => by cases fr <;> rfl
  | .n ml b mr, k, .e => by simp only [Tr.maskK, Tr.mask, maskK_eq ml, maskK_eq mr]
  | .n ml b mr, k, .n l v r => by simp only [Tr.maskK, Tr.mask, maskK_eq ml, maskK_eq mr]
theorem loopIter_succ (st : SS) (keep : Mk) (n : Nat) (fr : Tr) (s : St) (k : KK) : loopIter st keep (n + 1) fr s k = st fr s (joinK keep (loopIter st keep n) k) := rfl

theorem loopIter_lim {st : Nat → SS} {su : SS} (h : StepLim st su) {k : Nat → KK} {l : KK} (hk : KLim k l) (keep : Mk) : ∀ (m : Nat) (fr : Tr) (s : St), Lim (fun n => loopIter (st n) keep m fr s (k n)) (loopIter su keep m fr s l)
  | 0, _, _ => .fail
  | m + 1, fr, s => by
    simp only [loopIter_succ]
    refine h _ _ _ _ (fun x fr s => ?_)
    cases x with
    | norm => simp only [joinK, maskK_eq]; exact loopIter_lim h hk keep m _ s
    | _ => exact hk _ _ _
theorem loopIter_up {st : SS} (h : StepMono st) (keep : Mk) (k : KK) : ∀ (m : Nat) (fr : Tr) (s : St), Le (loopIter st keep m fr s k) (loopIter st keep (m + 1) fr s k)
  | 0, _, _ => .inl rfl
  | m + 1, fr, s => by
    rw [loopIter_succ, loopIter_succ]
    refine h _ _ _ _ (fun x fr s => ?_)
    cases x with
    | norm => simp only [joinK, maskK_eq]; exact loopIter_up h keep k m _ s
    | _ => exact .refl _
theorem loopIter_eq {st : SS} (h : StepMono st) {keep : Mk} {k : KK} {m : Nat} {fr : Tr} {s : St} {r : Res} (hr : r ≠ .fail) (e : loopIter st keep m fr s k = r) : ∀ m', m ≤ m' → loopIter st keep m' fr s k = r := by
  intro m' hm
  induction hm with
  | refl => exact e
  | step _ ih => exact (loopIter_up h keep k _ fr s).eq ih hr

noncomputable def loopω (st : SS) (keep : Mk) (fr : Tr) (s : St) (k : KK) : Res := if h : ∃ n, loopIter st keep n fr s k ≠ .fail then loopIter st keep h.choose fr s k else .fail
theorem loopω_of {st : SS} (h : StepMono st) {keep : Mk} {k : KK} {m : Nat} {fr : Tr} {s : St} {r : Res} (hr : r ≠ .fail) (e : loopIter st keep m fr s k = r) : loopω st keep fr s k = r := by
  have hx : ∃ n, loopIter st keep n fr s k ≠ .fail := ⟨m, by rw [e]; exact hr⟩
  unfold loopω
  rw [dif_pos hx]
  have h1 := hx.choose_spec
  have h2 := loopIter_eq h h1 rfl (max hx.choose m) (by omega)
  have h3 := loopIter_eq h hr e (max hx.choose m) (by omega)
  exact h2.symm.trans h3
theorem loopω_inv {st : SS} {keep : Mk} {k : KK} {fr : Tr} {s : St} {r : Res} (hr : r ≠ .fail) (e : loopω st keep fr s k = r) : ∃ m, loopIter st keep m fr s k = r := by
  unfold loopω at e
  split at e
  · exact ⟨_, e⟩
  · exact absurd e.symm hr

/-- How loops go round, as rounds grow. -/
def LoopLim (a : Nat → SS → Mk → SS) (b : SS → Mk → SS) : Prop := ∀ (st : Nat → SS) (su : SS) keep fr s k l, (∀ n, StepMono (st n)) → StepMono su → StepLim st su → KLim k l → Lim (fun n => a n (st n) keep fr s (k n)) (b su keep fr s l)

theorem loopω_lim : LoopLim (fun _ => loopω) loopω := fun st su keep fr s k l h1 h2 h3 h4 => by
  refine ⟨fun n => ?_, fun hb => ?_⟩
  · by_cases hf : loopω (st n) keep fr s (k n) = .fail
    · exact .inl hf
    · obtain ⟨m, e⟩ := loopω_inv hf rfl
      exact .inr (loopω_of h2 hf (((loopIter_lim h3 h4 keep m fr s).1 n).eq e hf)).symm
  · obtain ⟨m, e⟩ := loopω_inv hb rfl
    obtain ⟨N, hN⟩ := (loopIter_lim h3 h4 keep m fr s).2 (by rw [e]; exact hb)
    exact ⟨N, fun n hn => loopω_of (h1 n) hb ((hN n hn).trans e)⟩
theorem loopIter_grow : LoopLim (fun n st keep fr s k => loopIter st keep n fr s k) loopω := fun st su keep fr s k l h1 h2 h3 h4 => by
  refine ⟨fun n => ?_, fun hb => ?_⟩
  · by_cases hf : loopIter (st n) keep n fr s (k n) = .fail
    · exact .inl hf
    · exact .inr (loopω_of h2 hf (((loopIter_lim h3 h4 keep n fr s).1 n).eq rfl hf)).symm
  · obtain ⟨m, e⟩ := loopω_inv hb rfl
    obtain ⟨N, hN⟩ := (loopIter_lim h3 h4 keep m fr s).2 (by rw [e]; exact hb)
    exact ⟨max N m, fun n hn => loopIter_eq (h1 n) hb ((hN n (by omega)).trans e) n (by omega)⟩
theorem loopIter_two (m : Nat) : LoopLim (fun i st keep fr s k => loopIter st keep (if i = 0 then m else m + 1) fr s k) (fun st keep fr s k => loopIter st keep (m + 1) fr s k) := fun st su keep fr s k l h1 h2 h3 h4 => by
  refine ⟨fun n => ?_, fun hb => ?_⟩
  · simp only
    split
    · by_cases hf : loopIter (st n) keep m fr s (k n) = .fail
      · exact .inl hf
      · exact .inr ((loopIter_eq h2 hf (((loopIter_lim h3 h4 keep m fr s).1 n).eq rfl hf) (m + 1) (by omega)).symm)
    · exact (loopIter_lim h3 h4 keep (m + 1) fr s).1 n
  · obtain ⟨N, hN⟩ := (loopIter_lim h3 h4 keep (m + 1) fr s).2 hb
    exact ⟨max N 1, fun n hn => by simp only [show n ≠ 0 by omega, ↓reduceIte]; exact hN n (by omega)⟩

def EV (G : Nat → AV) (c : Nat → List AV → St → Res) (l : SS → Mk → SS) : Env := { F := .not, glob := G, call := c, loop := l }

section
variable {G : Nat → AV} {c : Nat → Nat → List AV → St → Res} {cu : Nat → List AV → St → Res} {l : Nat → SS → Mk → SS} {lu : SS → Mk → SS} (hc : ∀ f args s, Lim (fun n => c n f args s) (cu f args s))
include hc

theorem callV_lim (s : St) (f : Nat) (args : List AV) : Lim (fun n => callV (EV G (c n) (l n)) s .ok .panic f args) (callV (EV G cu lu) s .ok .panic f args) := by
  have e : ∀ E : Env, callV E s .ok .panic f args = Res.bind (E.call f args s) (fun v s' => bif Nat.beq s'.depth s.depth then .ok v s' else .fail) .panic := fun E => by
    unfold callV
    cases E.call f args s <;> rfl
  simp only [e]
  exact (hc f args s).bind (fun _ _ => .const _) (fun _ _ => .const _)
theorem callPV_lim (s : St) (f : Nat) (args : List AV) : Lim (fun n => callPV (EV G (c n) (l n)) s .ok f args) (callPV (EV G cu lu) s .ok f args) := by
  have e : ∀ E : Env, callPV E s .ok f args = bif AV.reflessL args then Res.bind (E.call f args { own := [], up := [], ro := [] }) (fun v _ => bif v.refless then .ok v s else .fail) (fun _ _ => .fail) else .fail := fun E => by
    unfold callPV
    cases AV.reflessL args <;> try rfl
    cases E.call f args _ <;> rfl
  simp only [e]
  cases AV.reflessL args
  · exact .fail
  · exact (hc f args _).bind (fun _ _ => .const _) (fun _ _ => .const _)
theorem callCV_lim (s : St) (xs : List (Option Nat × AV)) (f : Nat) (args : List AV) : Lim (fun n => callCV (EV G (c n) (l n)) s .ok .panic xs f args) (callCV (EV G cu lu) s .ok .panic xs f args) := by
  have e : ∀ E : Env, callCV E s .ok .panic xs f args = Res.bind (E.call f args s) (fun v s' => bif Nat.beq s'.depth s.depth then (bif xs.all fun x => sameO (cellsAt s x.1 x.2) (cellsAt s' x.1 x.2) then .ok v s' else .fail) else .fail) .panic := fun E => by
    unfold callCV callV
    cases E.call f args s <;> rfl
  simp only [e]
  exact (hc f args s).bind (fun _ _ => .const _) (fun _ _ => .const _)
theorem stepOp_lim (fr : Nat → AV) (s : St) (op : AOp) : Lim (fun n => stepOp (EV G (c n) (l n)) fr s .ok .panic op) (stepOp (EV G cu lu) fr s .ok .panic op) := by
  cases op with
  | call f args =>
    show Lim (fun n => callV (EV G (c n) (l n)) s .ok .panic f (args.map fun x => (opnd G fr x).pub s.depth)) (callV (EV G cu lu) s .ok .panic f (args.map fun x => (opnd G fr x).pub s.depth))
    exact callV_lim hc s f _
  | callC ks f args =>
    show Lim (fun n => callCV (EV G (c n) (l n)) s .ok .panic (ks.map fun x => (x.1, opnd G fr x.2)) f (args.map fun x => (opnd G fr x).pub s.depth)) (callCV (EV G cu lu) s .ok .panic (ks.map fun x => (x.1, opnd G fr x.2)) f (args.map fun x => (opnd G fr x).pub s.depth))
    exact callCV_lim hc s _ f _
  | callVC ks f args =>
    show Lim (fun n => callFCV (EV G (c n) (l n)) s .ok .panic (ks.map fun x => (x.1, opnd G fr x.2)) (opnd G fr f) (args.map fun x => (opnd G fr x).pub s.depth)) (callFCV (EV G cu lu) s .ok .panic (ks.map fun x => (x.1, opnd G fr x.2)) (opnd G fr f) (args.map fun x => (opnd G fr x).pub s.depth))
    cases opnd G fr f with
    | fn g caps => exact callCV_lim hc s _ g _
    | _ => exact .fail
  | callP f args =>
    show Lim (fun n => callPV (EV G (c n) (l n)) s .ok f (args.map fun x => (opnd G fr x).pub s.depth)) (callPV (EV G cu lu) s .ok f (args.map fun x => (opnd G fr x).pub s.depth))
    exact callPV_lim hc s f _
  | callV f args =>
    show Lim (fun n => callFV (EV G (c n) (l n)) s .ok .panic (opnd G fr f) (args.map fun x => (opnd G fr x).pub s.depth)) (callFV (EV G cu lu) s .ok .panic (opnd G fr f) (args.map fun x => (opnd G fr x).pub s.depth))
    cases opnd G fr f with
    | fn g caps => exact callV_lim hc s g _
    | _ => exact .fail
  | callVP f args =>
    show Lim (fun n => callFPV (EV G (c n) (l n)) s .ok (opnd G fr f) (args.map fun x => (opnd G fr x).pub s.depth)) (callFPV (EV G cu lu) s .ok (opnd G fr f) (args.map fun x => (opnd G fr x).pub s.depth))
    cases opnd G fr f with
    | fn g caps => exact callPV_lim hc s g _
    | _ => exact .fail
  | _ => exact .of_eq (fun n => rfl)
theorem stepOp_limK (fr : Nat → AV) (s : St) (op : AOp) {k kp : Nat → AV → St → Res} {m mp : AV → St → Res} (hk : ∀ v s, Lim (fun n => k n v s) (m v s)) (hp : ∀ v s, Lim (fun n => kp n v s) (mp v s)) :
    Lim (fun n => stepOp (EV G (c n) (l n)) fr s (k n) (kp n) op) (stepOp (EV G cu lu) fr s m mp op) := by
  have e : ∀ n, stepOp (EV G (c n) (l n)) fr s (k n) (kp n) op = Res.bind (stepOp (EV G (c n) (l n)) fr s .ok .panic op) (k n) (kp n) := fun n => stepOp_bind rfl _ _ _ _ _
  rw [stepOp_bind (E := EV G cu lu) rfl]
  simp only [e]
  exact (stepOp_lim hc fr s op).bind hk hp

theorem setK_lim : ∀ (d i : Nat) (v : AV) {k : Nat → Tr → Res} {m : Tr → Res} (_ : ∀ fr, Lim (fun n => k n fr) (m fr)) (fr : Tr), Lim (fun n => fr.setK d i v (k n)) (fr.setK d i v m)
  | 0, _, _, _, _, _, _ => .fail
  | d + 1, i, v, k, m, h, .e => by
    simp only [Tr.setK]
    cases Nat.beq i 0 with
    | true => exact h _
    | false =>
      cases Nat.beq (i % 2) 1 with
      | true => exact setK_lim d _ v (fun l => h _) _
      | false => exact setK_lim d _ v (fun l => h _) _
  | d + 1, i, v, k, m, h, .n a x b => by
    simp only [Tr.setK]
    cases Nat.beq i 0 with
    | true => exact h _
    | false =>
      cases Nat.beq (i % 2) 1 with
      | true => exact setK_lim d _ v (fun l => h _) _
      | false => exact setK_lim d _ v (fun l => h _) _
theorem putK_lim (dst : Option Nat) (v : AV) {k : Nat → Tr → Res} {m : Tr → Res} (h : ∀ fr, Lim (fun n => k n fr) (m fr)) (fr : Tr) : Lim (fun n => putK fr dst v (k n)) (putK fr dst v m) := by
  cases dst with
  | none => exact h fr
  | some i => exact setK_lim hc 12 i v h fr
theorem runOps_lim : ∀ (os : List AOper) (fr : Tr) (s : St) {k : Nat → Tr → St → Res} {m : Tr → St → Res} {kp : Nat → AV → Tr → St → Res} {mp : AV → Tr → St → Res} (_ : ∀ fr s, Lim (fun n => k n fr s) (m fr s)) (_ : ∀ v fr s, Lim (fun n => kp n v fr s) (mp v fr s)),
    Lim (fun n => runOps (EV G (c n) (l n)) os fr s (k n) (kp n)) (runOps (EV G cu lu) os fr s m mp)
  | [], fr, s, k, m, kp, mp, h, hp => h fr s
  | o :: os, fr, s, k, m, kp, mp, h, hp => by
    simp only [runOps]
    have key : ∀ w : Bool, Lim (fun n => bif w then stepOp (EV G (c n) (l n)) fr.get s (fun v s => putK fr o.dst v fun fr => runOps (EV G (c n) (l n)) os fr s (k n) (kp n)) (fun v s => kp n v fr s) o.op else putK fr o.dst (.tup []) fun fr => runOps (EV G (c n) (l n)) os fr s (k n) (kp n))
        (bif w then stepOp (EV G cu lu) fr.get s (fun v s => putK fr o.dst v fun fr => runOps (EV G cu lu) os fr s m mp) (fun v s => mp v fr s) o.op else putK fr o.dst (.tup []) fun fr => runOps (EV G cu lu) os fr s m mp) := fun w => by
      cases w with
      | true => exact stepOp_limK hc fr.get s o.op (fun v s => putK_lim hc o.dst v (fun fr => runOps_lim os fr s h hp) fr) (fun v s => hp v fr s)
      | false => exact putK_lim hc o.dst _ (fun fr => runOps_lim os fr s h hp) fr
    unfold wantedK
    split
    · exact key _
    · split
      · exact key _
      · exact key _
      · exact .fail

variable (hl : LoopLim l lu) (hm : ∀ n, LoopLim (fun _ => l n) (l n)) (hmu : LoopLim (fun _ => lu) lu)
include hl hm hmu
theorem exec_lim' : ∀ (code : ACode), StepLim (fun n => exec (EV G (c n) (l n)) code) (exec (EV G cu lu) code) ∧ (∀ n, StepLim (fun _ => exec (EV G (c n) (l n)) code) (exec (EV G (c n) (l n)) code)) ∧ StepLim (fun _ => exec (EV G cu lu) code) (exec (EV G cu lu) code) := by
  have gen : ∀ (code : ACode) (c : Nat → Nat → List AV → St → Res) (cu : Nat → List AV → St → Res) (l : Nat → SS → Mk → SS) (lu : SS → Mk → SS), (∀ f args s, Lim (fun n => c n f args s) (cu f args s)) → LoopLim l lu → (∀ n, LoopLim (fun _ => l n) (l n)) → LoopLim (fun _ => lu) lu → StepLim (fun n => exec (EV G (c n) (l n)) code) (exec (EV G cu lu) code) := by
    intro code
    induction code with
    | skip => intro c cu l lu hc hl hm hmu fr s k m hk; exact hk _ _ _
    | region chk ops =>
      intro c cu l lu hc hl hm hmu fr s k m hk
      cases chk with
      | none => exact runOps_lim hc ops fr s (fun fr s => hk _ _ _) (fun v fr s => .fail)
      | some chk =>
        simp only [exec]
        show Lim (fun n => bif chk.all (apartB G fr.get) then _ else _) (bif chk.all (apartB G fr.get) then _ else _)
        cases chk.all (apartB G fr.get)
        · exact .fail
        · exact runOps_lim hc ops fr s (fun fr s => hk _ _ _) (fun v fr s => .fail)
    | seq a b iha ihb =>
      intro c cu l lu hc hl hm hmu fr s k m hk
      simp only [exec]
      refine iha c cu l lu hc hl hm hmu fr s _ _ (fun x fr s => ?_)
      cases x with
      | norm => exact ihb c cu l lu hc hl hm hmu fr s k m hk
      | _ => exact hk _ _ _
    | cond x a b iha ihb =>
      intro c cu l lu hc hl hm hmu fr s k m hk
      simp only [exec]
      show Lim (fun n => match opnd G fr.get x with | .bool t => bif t then exec (EV G (c n) (l n)) a fr s (k n) else exec (EV G (c n) (l n)) b fr s (k n) | _ => .fail) (match opnd G fr.get x with | .bool t => bif t then exec (EV G cu lu) a fr s m else exec (EV G cu lu) b fr s m | _ => .fail)
      cases opnd G fr.get x with
      | bool t => cases t with
        | true => exact iha c cu l lu hc hl hm hmu fr s k m hk
        | false => exact ihb c cu l lu hc hl hm hmu fr s k m hk
      | _ => exact .fail
    | mask m' a ih =>
      intro c cu l lu hc hl hm hmu fr s k m hk
      simp only [exec, maskK_eq]
      exact ih c cu l lu hc hl hm hmu _ s k m hk
    | block id a ih =>
      intro c cu l lu hc hl hm hmu fr s k m hk
      simp only [exec]
      refine ih c cu l lu hc hl hm hmu fr s _ _ (fun x fr s => ?_)
      cases x with
      | exit j =>
        simp only [blockK]
        cases Nat.beq j id
        · exact hk _ _ _
        · exact hk _ _ _
      | _ => exact hk _ _ _
    | loop keep a ih =>
      intro c cu l lu hc hl hm hmu fr s k m hk
      simp only [exec, maskK_eq]
      refine hl _ _ keep _ s k m (fun n => ?_) ?_ (ih c cu l lu hc hl hm hmu) hk
      · exact (ih (fun _ => c n) (c n) (fun _ => l n) (l n) (fun _ _ _ => .const _) (hm n) (fun _ => hm n) (hm n)).mono
      · exact (ih (fun _ => cu) cu (fun _ => lu) lu (fun _ _ _ => .const _) hmu (fun _ => hmu) hmu).mono
    | exit id => intro c cu l lu hc hl hm hmu fr s k m hk; exact hk _ _ _
    | scope a ih => intro c cu l lu hc hl hm hmu fr s k m hk; simp only [exec]; exact ih c cu l lu hc hl hm hmu fr s k m hk
    | ret => intro c cu l lu hc hl hm hmu fr s k m hk; exact hk _ _ _
  intro code
  exact ⟨gen code c cu l lu hc hl hm hmu, fun n => gen code (fun _ => c n) (c n) (fun _ => l n) (l n) (fun _ _ _ => .const _) (hm n) (fun _ => hm n) (hm n), gen code (fun _ => cu) cu (fun _ => lu) lu (fun _ _ _ => .const _) hmu (fun _ => hmu) hmu⟩
end

theorem loopIter_const (m : Nat) : LoopLim (fun _ st keep fr s k => loopIter st keep m fr s k) (fun st keep fr s k => loopIter st keep m fr s k) := fun _ _ keep fr s _ _ _ _ h3 h4 => loopIter_lim h3 h4 keep m fr s

theorem setArgs_lim : ∀ (vs : List AV) (i : Nat) (fr : Tr) {k : Nat → Tr → Res} {m : Tr → Res} (_ : ∀ fr, Lim (fun n => k n fr) (m fr)), Lim (fun n => setArgs vs i fr (k n)) (setArgs vs i fr m)
  | [], _, fr, _, _, h => h fr
  | v :: vs, i, fr, k, m, h => setK_lim (c := fun _ _ _ _ => .fail) (cu := fun _ _ _ => .fail) (fun _ _ _ => .fail) 12 i v (fun fr => setArgs_lim vs (i + 1) fr h) fr

/-- A function's body, in whatever its calls and loops are. -/
def body (T : Nat → Option AFn) (G : Nat → AV) (X : Nat → List AV → St → Res) (c : Nat → List AV → St → Res) (l : SS → Mk → SS) (f : Nat) (args : List AV) (s : St) : Res :=
  match T f with
  | none => X f args s
  | some fn =>
    bif Nat.beq args.length fn.np then
      setArgs args 0 .e fun fr => exec (EV G c l) fn.body fr (if fn.keep then s else { own := [], up := s.own :: s.up, ro := s.ro }) (finK .not fn)
    else .fail
theorem body_lim {T : Nat → Option AFn} {G : Nat → AV} {X : Nat → List AV → St → Res} {c : Nat → Nat → List AV → St → Res} {cu : Nat → List AV → St → Res} {l : Nat → SS → Mk → SS} {lu : SS → Mk → SS} (hc : ∀ f args s, Lim (fun n => c n f args s) (cu f args s)) (hl : LoopLim l lu) (hm : ∀ n, LoopLim (fun _ => l n) (l n)) (hmu : LoopLim (fun _ => lu) lu) (f : Nat) (args : List AV) (s : St) :
    Lim (fun n => body T G X (c n) (l n) f args s) (body T G X cu lu f args s) := by
  unfold body
  cases T f with
  | none => exact .const _
  | some fn =>
    simp only
    cases Nat.beq args.length fn.np with
    | false => exact .fail
    | true =>
      simp only [cond_true]
      refine setArgs_lim args 0 .e (fun fr => (exec_lim' hc hl hm hmu fn.body).1 fr _ _ _ (fun x fr s => ?_))
      cases x <;> exact .const _
theorem call_body (T : Nat → Option AFn) (G : Nat → AV) (X : Nat → List AV → St → Res) (n f : Nat) (args : List AV) (s : St) : call .not T G X (n + 1) f args s = body T G X (call .not T G X n) (fun st keep fr s k => loopIter st keep n fr s k) f args s := rfl

section
variable (T : Nat → Option AFn) (G : Nat → AV) (X : Nat → List AV → St → Res)
theorem call_up : ∀ (n f : Nat) (args : List AV) (s : St), Le (call .not T G X n f args s) (call .not T G X (n + 1) f args s)
  | 0, f, args, s => .inl rfl
  | n + 1, f, args, s => by
    have h := body_lim (T := T) (G := G) (X := X) (c := fun i => call .not T G X (if i = 0 then n else n + 1)) (cu := call .not T G X (n + 1)) (fun f args s => ⟨fun i => by
        simp only
        split
        · exact call_up n f args s
        · exact .refl _, fun _ => ⟨1, fun i hi => by simp [show i ≠ 0 by omega]⟩⟩) (loopIter_two n) (fun i => by by_cases hi : i = 0 <;> simp only [hi, ↓reduceIte] <;> exact loopIter_const _) (loopIter_const (n + 1)) f args s
    have := h.1 0
    simp only [↓reduceIte] at this
    rw [call_body, call_body]
    exact this
theorem call_eq {n f : Nat} {args : List AV} {s : St} {r : Res} (hr : r ≠ .fail) (e : call .not T G X n f args s = r) : ∀ m, n ≤ m → call .not T G X m f args s = r := by
  intro m hm
  induction hm with
  | refl => exact e
  | step _ ih => exact (call_up T G X _ f args s).eq ih hr

/-- A call, with as many rounds as it takes. -/
noncomputable def callω (f : Nat) (args : List AV) (s : St) : Res := if h : ∃ n, call .not T G X n f args s ≠ .fail then call .not T G X h.choose f args s else .fail
theorem callω_of {n f : Nat} {args : List AV} {s : St} {r : Res} (hr : r ≠ .fail) (e : call .not T G X n f args s = r) : callω T G X f args s = r := by
  have hx : ∃ n, call .not T G X n f args s ≠ .fail := ⟨n, by rw [e]; exact hr⟩
  unfold callω
  rw [dif_pos hx]
  have h1 := hx.choose_spec
  exact (call_eq T G X h1 rfl (max hx.choose n) (by omega)).symm.trans (call_eq T G X hr e (max hx.choose n) (by omega))
theorem callω_inv {f : Nat} {args : List AV} {s : St} {r : Res} (hr : r ≠ .fail) (e : callω T G X f args s = r) : ∃ n, call .not T G X n f args s = r := by
  unfold callω at e
  split at e
  · exact ⟨_, e⟩
  · exact absurd e.symm hr
theorem callω_lim (f : Nat) (args : List AV) (s : St) : Lim (fun n => call .not T G X n f args s) (callω T G X f args s) := by
  refine ⟨fun n => ?_, fun hb => ?_⟩
  · by_cases hf : call .not T G X n f args s = .fail
    · exact .inl hf
    · exact .inr (callω_of T G X hf rfl).symm
  · obtain ⟨n, e⟩ := callω_inv T G X hb rfl
    exact ⟨n, fun m hm => call_eq T G X hb e m hm⟩
/-- A call is its function's body. -/
theorem callω_body (f : Nat) (args : List AV) (s : St) : callω T G X f args s = body T G X (callω T G X) loopω f args s := by
  have h := body_lim (T := T) (G := G) (X := X) (callω_lim T G X) loopIter_grow (fun n => loopIter_const n) loopω_lim f args s
  by_cases hf : body T G X (callω T G X) loopω f args s = .fail
  · rw [hf]
    by_cases hc : callω T G X f args s = .fail
    · exact hc
    · obtain ⟨n, e⟩ := callω_inv T G X hc rfl
      have := call_eq T G X hc e (n + 1) (by omega)
      rw [call_body] at this
      exact absurd ((h.1 n).eq this hc) (by rw [hf]; exact fun q => hc q.symm)
  · obtain ⟨N, hN⟩ := h.2 hf
    have e := (call_body T G X N f args s).trans (hN N (Nat.le_refl _))
    exact callω_of T G X hf e
end

/-- A loop is its first round, and the rest. -/
theorem loopω_succ {G : Nat → AV} {cu : Nat → List AV → St → Res} (code : ACode) (keep : Mk) (fr : Tr) (s : St) (k : KK) : loopω (exec (EV G cu loopω) code) keep fr s k = exec (EV G cu loopω) code fr s (joinK keep (loopω (exec (EV G cu loopω) code) keep) k) := by
  have hL := (exec_lim' (G := G) (c := fun _ => cu) (cu := cu) (l := fun _ => loopω) (lu := loopω) (fun _ _ _ => .const _) loopω_lim (fun _ => loopω_lim) loopω_lim code).1
  have hM := hL.mono
  have hk : KLim (fun n => joinK keep (loopIter (exec (EV G cu loopω) code) keep n) k) (joinK keep (loopω (exec (EV G cu loopω) code) keep) k) := fun x fr s => by
    cases x with
    | norm =>
      simp only [joinK, maskK_eq]
      generalize Tr.mask keep fr = fr
      refine ⟨fun n => ?_, fun hb => ?_⟩
      · by_cases hf : loopIter (exec (EV G cu loopω) code) keep n fr s k = .fail
        · exact .inl hf
        · exact .inr (loopω_of hM hf rfl).symm
      · obtain ⟨n, e⟩ := loopω_inv hb rfl
        exact ⟨n, fun m hm => loopIter_eq hM hb e m hm⟩
    | _ => exact .const _
  have h := hL fr s _ _ hk
  generalize hR : exec (EV G cu loopω) code fr s (joinK keep (loopω (exec (EV G cu loopω) code) keep) k) = R at h ⊢
  by_cases hf : R = .fail
  · rw [hf]
    by_cases hc : loopω (exec (EV G cu loopω) code) keep fr s k = .fail
    · exact hc
    · obtain ⟨n, e⟩ := loopω_inv hc rfl
      have := (loopIter_succ _ _ _ _ _ _).symm.trans (loopIter_eq hM hc e (n + 1) (by omega))
      exact absurd ((h.1 n).eq this hc) (by rw [hf]; exact fun q => hc q.symm)
  · obtain ⟨N, hN⟩ := h.2 hf
    exact loopω_of hM hf ((loopIter_succ _ _ _ _ _ _).trans (hN N (Nat.le_refl _)))
end Go.Ab
end
