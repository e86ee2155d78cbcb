/- A function's call, abstract and machine's: the whole. -/
import Derived.Test.YtnafklimohmfkaaDoorCall2
namespace Go.Ab
set_option linter.unusedSimpArgs false
set_option linter.unusedSectionVars false

/-- Is the abstract function the machine's? -/
def okFn (T : TT) (afn : AFn) (fn : Func) : Bool :=
  match fn.body with
  | some c => !(fn.name == "runtime.NumGoroutine") && Nat.beq afn.nt fn.ntmps && Nat.ble afn.np fn.ntmps && okRess T afn.results fn.results.toList && okCode T afn.nt afn.body c
  | none => false
def TabOK (P : Program) (T : TT) (Tab : Nat → Option AFn) : Prop := ∀ f afn, Tab f = some afn → ∃ fn, P.funcs[f]? = some fn ∧ okFn T afn fn = true
structure XOK (P : Program) (Tab : Nat → Option AFn) (G : Nat → AV) (X : Nat → List AV → St → Res) : Prop where
  nopanic : ∀ f args s, NP (X f args s)
  ok : ∀ f args s v s' κ w xs, Tab f = none → X f args s = .ok v s' → Sim κ s w → GOK κ G → VRs κ (s.depth + 1) args xs →
    (∃ x w', (callFunc f xs.toArray).run P w = .ok (.value x) w' ∧ After κ s w v s' x w') ∨
    ((callFunc f xs.toArray).run P w = .ok (.enter f xs.toArray) w ∧ Calls P f xs.toArray w fun e w' => ∃ x, e = .returned x ∧ After κ s w v s' x w')

section
variable {P : Program} {κ : Kap} {s : St} {w : World}

theorem tup_sound {κ : Kap} {D : Nat} {vs : List AV} {xs : List Value} (h : VRs κ D vs xs) : VR κ D (tupV vs) (if h : xs.toArray.size = 1 then xs.toArray[0] else .tuple xs.toArray) := by
  match vs, xs, h with
  | [v], [x], h => exact h.2 0 v x rfl rfl
  | [], xs, h =>
    have : xs = [] := List.eq_nil_of_length_eq_zero h.1
    subst this
    exact .tup [] [] rfl (fun j c x hc => by simp at hc)
  | v :: v2 :: vs, xs, h =>
    have hl : xs.length = vs.length + 2 := by rw [h.1]; rfl
    rw [dif_neg (by simp; omega)]
    exact .tup _ xs h.1 h.2
  | [v], [], h => exact absurd h.1 (by simp)
  | [v], _ :: _ :: _, h => exact absurd h.1 (by simp)

/-- A function's results in the machine. -/
theorem results_vals {T : TT} (hT : T.OK P) {nt : Nat} {G : Nat → AV} {fr : Tr} {a : Act} (h : Run κ s w fr.get a nt G) {afn : AFn} {fn : Func} (hok : okRess T afn.results fn.results.toList = true) {vs : List AV} (hvs : mapO (resV fr s) afn.results = some vs) :
    ∃ xs : List Value, (results fn a.tmps).run P w = .ok (if h : xs.toArray.size = 1 then xs.toArray[0] else .tuple xs.toArray) w ∧ VRs κ (s.depth + 1) (vs.map (AV.pub s.depth)) xs := by
  obtain ⟨hl1, hr1⟩ := mapO_inv hvs
  obtain ⟨hl3, hr3⟩ := okRess_sound hok
  have hval : ∀ (j : Nat) (b : ResultVar), fn.results.toList[j]? = some b → ∃ x, (∀ f : ResultVar → Sem Value, (∀ t, f (.tmp t) = Pure.pure (a.tmps.getD t undef)) → (∀ t ty, f (.cell t ty) = (do loadVar ty (← asAddr (a.tmps.getD t undef)) : Sem Value)) → (f b).run P w = .ok x w) ∧ ∀ v, vs[j]? = some v → VR κ (s.depth + 1) (v.pub s.depth) x := fun j b hb => by
    have hj := (List.getElem?_eq_some_iff.1 hb).1
    have hja : j < afn.results.length := by rw [hl3]; exact hj
    have hjv : j < vs.length := by rw [hl1]; exact hja
    obtain ⟨rv, e1, e2⟩ := hr1 j vs[j] (List.getElem?_eq_getElem hjv)
    obtain ⟨x, e3, e4⟩ := res_sound hT h (hr3 j rv b e1 hb) e2
    refine ⟨x, e3, fun v hv => ?_⟩
    rw [List.getElem?_eq_getElem hjv] at hv
    simp only [Option.some.injEq] at hv
    subst hv
    exact e4
  have hxs : ∃ xs : List Value, xs.length = fn.results.toList.length ∧ ∀ (j : Nat) (b : ResultVar) (x : Value), fn.results.toList[j]? = some b → xs[j]? = some x → (∀ f : ResultVar → Sem Value, (∀ t, f (.tmp t) = Pure.pure (a.tmps.getD t undef)) → (∀ t ty, f (.cell t ty) = (do loadVar ty (← asAddr (a.tmps.getD t undef)) : Sem Value)) → (f b).run P w = .ok x w) ∧ ∀ v, vs[j]? = some v → VR κ (s.depth + 1) (v.pub s.depth) x := by
    refine ⟨(List.range fn.results.toList.length).map fun j => if hj : j < fn.results.toList.length then Classical.choose (hval j _ (List.getElem?_eq_getElem hj)) else undef, by simp, fun j b x hb hx => ?_⟩
    have hj := (List.getElem?_eq_some_iff.1 hb).1
    have hb' : fn.results.toList[j] = b := (List.getElem?_eq_some_iff.1 hb).2
    simp only [List.getElem?_map, List.getElem?_range hj, Option.map_some, Option.some.injEq] at hx
    rw [dif_pos hj] at hx
    have := Classical.choose_spec (hval j _ (List.getElem?_eq_getElem hj))
    rw [hx, hb'] at this
    exact this
  obtain ⟨xs, hxl, hx⟩ := hxs
  refine ⟨xs, ?_, by rw [hxl, List.length_map, hl1, hl3], fun j c x hc hx' => ?_⟩
  · unfold results
    rw [Array.mapM_eq_mapM_toList]
    have := fun f h1 h2 => run_mapM_list (P := P) (w := w) f fn.results.toList xs hxl (fun j r x hr hx' => (hx j r x hr hx').1 f h1 h2)
    rw [map_eq_pure_bind, Sem.run_bind, Sem.run_bind, this]
    · rfl
    · intro t; rfl
    · intro t ty; rfl
  · have hj : j < fn.results.toList.length := by rw [← hxl]; exact (List.getElem?_eq_some_iff.1 hx').1
    rw [List.getElem?_map] at hc
    cases hvj : vs[j]? with
    | none => rw [hvj] at hc; cases hc
    | some v =>
      rw [hvj] at hc
      simp only [Option.map_some, Option.some.injEq] at hc
      subst hc
      exact (hx j _ x (List.getElem?_eq_getElem hj) hx').2 v hvj

/-- What a function hands back, and the frame it leaves. -/
theorem finish_sound {T : TT} (hT : T.OK P) {nt : Nat} {G : Nat → AV} {fr : Tr} {a : Act} (h : Run κ s w fr.get a nt G) {afn : AFn} {fn : Func} (hk : afn.keep = false) (hok : okRess T afn.results fn.results.toList = true) {v : AV} {s' : St} (hf : finish .not afn fr s = .ok v s') :
    ∃ x κ' s'' own, (results fn a.tmps).run P w = .ok x w ∧ s.up = own :: s'.up ∧ s' = { own, up := s'.up, ro := s.ro } ∧ s''.up = s.up ∧ s''.ro = s.ro ∧ Ext κ s w κ' s'' w ∧ Sim κ' s'' w ∧ VR κ' s.depth v x := by
  simp only [finish, hk, Force.not, Bool.false_eq_true, ↓reduceIte] at hf
  cases hvs : mapO (resV fr s) afn.results with
  | none => rw [hvs] at hf; cases hf
  | some vs =>
    rw [hvs] at hf
    simp only at hf
    cases hfs : mapO (freeze s) vs with
    | none => rw [hfs] at hf; cases hf
    | some fs =>
      rw [hfs] at hf
      simp only at hf
      cases hup : s.up with
      | nil => rw [hup] at hf; cases hf
      | cons own up =>
        rw [hup] at hf
        simp only [Res.ok.injEq] at hf
        obtain ⟨rfl, rfl⟩ := hf
        obtain ⟨hl2, hr2⟩ := mapO_inv hfs
        obtain ⟨κ', s'', q1, q2, q3, q4, q5, q6, q7, q8⟩ := h.sim.freezeOwn s.own.length (Nat.le_refl _)
        have hfz : ∀ i cs, s.own[i]? = some (.cells cs) → ∃ C : Array Value, (∀ j (h : j < C.size), κ'.F ⟨κ.loc s.depth i, j, none⟩ = some C[j]) ∧ VRs κ' (s.depth + 1) cs C.toList := fun i cs hi => q8 i cs (List.getElem?_eq_some_iff.1 hi).1 hi
        obtain ⟨xs, hrun, hx⟩ := results_vals hT h hok hvs
        refine ⟨_, κ', s'', own, hrun, rfl, rfl, by rw [q3, hup], q4, q2, q1, ?_⟩
        refine tup_sound ⟨by rw [hx.1, List.length_map, hl2], fun j c x hc hx' => ?_⟩
        obtain ⟨v0, e1, e2⟩ := hr2 j c hc
        exact freeze_sound q2.k hfz (hx.2 j _ x (by rw [List.getElem?_map, e1]; rfl) hx') e2

/-- What a function that runs in its caller's frame hands back. -/
theorem finish_keep {T : TT} (hT : T.OK P) {nt : Nat} {G : Nat → AV} {fr : Tr} {a : Act} (h : Run κ s w fr.get a nt G) {afn : AFn} {fn : Func} (hk : afn.keep = true) (hok : okRess T afn.results fn.results.toList = true) {v : AV} {s' : St} (hf : finish .not afn fr s = .ok v s') :
    ∃ x, (results fn a.tmps).run P w = .ok x w ∧ s' = s ∧ VR κ (s.depth + 1) (v.pub s.depth) x := by
  simp only [finish, hk, Force.not, ↓reduceIte] at hf
  cases hvs : mapO (resV fr s) afn.results with
  | none => rw [hvs] at hf; cases hf
  | some vs =>
    rw [hvs] at hf
    simp only [Res.ok.injEq] at hf
    obtain ⟨rfl, rfl⟩ := hf
    obtain ⟨xs, hrun, hx⟩ := results_vals hT h hok hvs
    refine ⟨_, hrun, rfl, ?_⟩
    have := tup_sound hx
    rw [this.pub_eq]
    exact this

variable (hm : P.follows .mixedOrders = true) {T : TT} (hT : T.OK P) {Tab : Nat → Option AFn} (hTab : TabOK P T Tab) {G : Nat → AV} {X : Nat → List AV → St → Res} (hX : XOK P Tab G X)
include hm hT hTab hX

/-- The evaluator's calls are the machine's. -/
theorem call_ok : ∀ n m, CallOK P { F := .not, glob := G, call := call .not Tab G X n, loop := fun step keep fr s k => loopIter step keep m fr s k }
  | 0, m => ⟨⟨m, fun _ _ _ _ _ => rfl⟩, fun f args s v s' h => (by simp [call] at h), fun f args s v s' κ w xs h => (by simp [call] at h)⟩
  | n + 1, m => by
    refine ⟨⟨m, fun _ _ _ _ _ => rfl⟩, fun f args s => NP.call hX.nopanic (n + 1) f args s, fun f args s v s' κ w xs h hs hG hargs => ?_⟩
    simp only at h hG
    simp only [call] at h
    cases hf : Tab f with
    | none =>
      rw [hf] at h
      exact hX.ok f args s v s' κ w xs hf h hs hG hargs
    | some afn =>
      rw [hf] at h
      simp only at h
      obtain ⟨fn, hfn, hok⟩ := hTab f afn hf
      unfold okFn at hok
      cases hbody : fn.body with
      | none => rw [hbody] at hok; cases hok
      | some c =>
        rw [hbody] at hok
        simp only [Bool.and_eq_true, Bool.not_eq_true'] at hok
        obtain ⟨⟨⟨⟨o1, o2⟩, o3⟩, o5⟩, o6⟩ := hok
        have hnt : afn.nt = fn.ntmps := Nat.eq_of_beq_eq_true o2
        have hnp := Nat.le_of_ble_eq_true o3
        obtain ⟨hlen, h⟩ := bif_cases h (by simp)
        have hlen := Nat.eq_of_beq_eq_true hlen
        have o1' : ¬ fn.name = "runtime.NumGoroutine" := by simpa using o1
        refine .inr ⟨by simp [callFunc, hfn, o1', hbody], ?_⟩
        cases o4 : afn.keep with
        | true =>
          rw [o4] at h
          simp only [↓reduceIte] at h
          obtain ⟨fr, hex, hget⟩ := setArgs_inv (by simp) _ _ _ h
          have hC := call_ok n n
          have hxl : xs.length = args.length := hargs.1
          have hrun : Run κ s w fr.get { tmps := xs.toArray ++ Array.replicate (fn.ntmps - xs.toArray.size) undef, defers := [] } afn.nt G := by
            refine ⟨hs, fun t => ?_, rfl, ?_, hG⟩
            · rw [hget t]
              split
              · rename_i ht
                have ht' : t < args.length := by omega
                have e1 : args[t]? = some args[t] := List.getElem?_eq_getElem ht'
                have e2 : xs[t]? = some xs[t] := List.getElem?_eq_getElem (by omega)
                have hv := hargs.2 t _ _ e1 e2
                have e3 : (xs.toArray ++ Array.replicate (fn.ntmps - xs.toArray.size) undef).getD t undef = xs[t] := by
                  rw [Array.getD_eq_getD_getElem?, Array.getElem?_append_left (by simp; omega)]
                  simp [e2]
                rw [e3, Nat.sub_zero, List.getD_eq_getElem?_getD, e1, Option.getD_some, hv.pub_eq]
                exact hv
              · exact .dead _
            · simp
              omega
          refine calls_of_wp hfn hbody (wp_mono (exec_sound hm hT rfl hC afn.body c (hnt ▸ o6) (by simp) hrun hex) fun e a' w' hp => ?_)
          obtain ⟨x, κ₂, s₂, fr', hx, he, hr, hk⟩ := hp
          have key : finish .not afn fr' s₂ = .ok v s' → a'.defers = [] ∧ ∃ y, (results fn a'.tmps).run P w' = .ok y w' ∧ ∃ x, Ending.returned y = .returned x ∧ After κ s w v s' x w' := fun hk => by
            refine ⟨hr.defers, ?_⟩
            obtain ⟨y, r1, r2, r3⟩ := finish_keep hT hr o4 o5 hk
            subst r2
            refine ⟨y, r1, y, rfl, κ₂, he, hr.sim, ?_⟩
            rw [he.depth] at r3
            exact r3
          cases hx with
          | norm => exact key hk
          | exit i => cases hk
          | ret => exact key hk
        | false =>
          rw [o4] at h
          simp only [Bool.false_eq_true, ↓reduceIte] at h
          obtain ⟨fr, hex, hget⟩ := setArgs_inv (by simp) _ _ _ h
          obtain ⟨κ₁, p1, p2, p3, p4⟩ := hs.push
          have hC := call_ok n n
          have hxl : xs.length = args.length := hargs.1
          have hrun : Run κ₁ s.push w fr.get { tmps := xs.toArray ++ Array.replicate (fn.ntmps - xs.toArray.size) undef, defers := [] } afn.nt G := by
            refine ⟨p1, fun t => ?_, rfl, ?_, hG.mono p2⟩
            · rw [hget t]
              split
              · rename_i ht
                have ht' : t < args.length := by omega
                have e1 : args[t]? = some args[t] := List.getElem?_eq_getElem ht'
                have e2 : xs[t]? = some xs[t] := List.getElem?_eq_getElem (by omega)
                have hv := hargs.2 t _ _ e1 e2
                have e3 : (xs.toArray ++ Array.replicate (fn.ntmps - xs.toArray.size) undef).getD t undef = xs[t] := by
                  rw [Array.getD_eq_getD_getElem?, Array.getElem?_append_left (by simp; omega)]
                  simp [e2]
                rw [e3, Nat.sub_zero, List.getD_eq_getElem?_getD, e1, Option.getD_some, hv.pub_eq]
                exact (hv.mono p2).up (by rw [St.push_depth]; omega)
              · exact .dead _
            · simp
              omega
          refine calls_of_wp hfn hbody (wp_mono (exec_sound hm hT rfl hC afn.body c (hnt ▸ o6) (by simp) hrun hex) fun e a' w' hp => ?_)
          obtain ⟨x, κ₂, s₂, fr', hx, he, hr, hk⟩ := hp
          have key : finish .not afn fr' s₂ = .ok v s' → a'.defers = [] ∧ ∃ y, (results fn a'.tmps).run P w' = .ok y w' ∧ ∃ x, Ending.returned y = .returned x ∧ After κ s w v s' x w' := fun hk => by
            refine ⟨hr.defers, ?_⟩
            obtain ⟨y, κ₃, s₃, own, r1, r2, r3, r4, r5, r6, r7, r8⟩ := finish_sound hT hr o4 o5 hk
            refine ⟨y, r1, y, rfl, κ₃, ?_, ?_, ?_⟩
            · -- the frame is gone
              have hE := he.trans r6
              have hs3 : s' = { own, up := s'.up, ro := s₃.ro } := by rw [r5]; exact r3
              have hup : s₃.up = own :: s'.up := by rw [r4, r2]
              have hd : s'.depth = s.depth := by
                have h1 := hE.depth
                rw [St.push_depth] at h1
                have h2 : s₃.depth = s'.depth + 1 := by
                  rw [hs3]
                  simp only [St.depth, hup, List.length_cons]
                  omega
                omega
              have hlive : ∀ b, Live κ₁ s.push b ↔ Live κ s b := fun b => by
                constructor
                · rintro ⟨d, i, o, g1, g2⟩
                  rw [St.push_get] at g1
                  exact ⟨d, i, o, g1, by rw [← p4 d i o g1]; exact g2⟩
                · rintro ⟨d, i, o, g1, g2⟩
                  exact ⟨d, i, o, by rw [St.push_get]; exact g1, by rw [p4 d i o g1]; exact g2⟩
              refine ⟨p2.trans (hE.k.low (by rw [St.push_depth]; omega)), hd, hE.size, hE.os, hE.tape, hE.output, fun b hb hl => hE.chg b hb (fun hl' => hl ((hlive b).1 hl')), fun b hb hl => ?_, fun a ha => ?_⟩
              · refine (hlive b).1 (hE.live b hb ?_)
                obtain ⟨d, i, o, g1, g2⟩ := hl
                rw [hs3] at g1
                exact ⟨d, i, o, St.pop_get hup g1, g2⟩
              · rcases hE.frz a ha with q | q | q
                · rw [p3] at q; exact .inl q
                · exact .inr (.inl q)
                · exact .inr (.inr ((hlive _).1 q))
            · have hs3 : s' = { own, up := s'.up, ro := s₃.ro } := by rw [r5]; exact r3
              rw [hs3]
              exact r7.pop (by rw [r4, r2])
            · have hd : s₂.depth = s.depth + 1 := by rw [he.depth, St.push_depth]
              rw [hd] at r8
              rw [r8.pub_eq]
              exact r8
          cases hx with
          | norm => exact key hk
          | exit i => cases hk
          | ret => exact key hk
end
end Go.Ab
