/- One operation of a region, abstract and machine's: all of them. -/
import Derived.Test.YtnafklimohmfkaaDoorStep2
namespace Go.Ab
set_option linter.unusedSimpArgs false
set_option linter.unusedSectionVars false

section
variable {P : Program} {T : TT} (hT : T.OK P) {ty : TypeId} {κ : Kap} {s : St} {w : World} (hs : Sim κ s w) {E : Env} (hE : E.F = .not) (hC : CallOK P E) {fr : Nat → AV} {a : Act} (hfr : FR κ s fr a) (hG : GOK κ E.glob) {k kp : AV → St → Res} {r : Res} (hf : r ≠ .fail)
include hs hE hfr hG hf

theorem oV_inv {v : Option AV} (h : oV E s k v = r) : ∃ v', v = some v' ∧ k v' s = r := by
  cases v with
  | none => exact absurd h.symm hf
  | some v' => simp only [oV, hE, Force.not] at h; exact ⟨v', rfl, h⟩

theorem sound_bin {o : BinOp} {x y : AOpd} {x' y' : Operand} {t yt : TypeId} (hx : okOpd x x' = true) (hy : okOpd y y' = true) (hr : oV E s k (binV o (opnd E.glob fr x) (opnd E.glob fr y)) = r) : ∃ v s', k v s' = r ∧ Does P (.binOp o t x' y' yt) ty a.eval κ s w v s' := by
  obtain ⟨v, hv, hk⟩ := oV_inv hs hE hfr hG hf hr
  refine ⟨v, s, hk, .inl ?_⟩
  have h1 := opnd_VR hfr hG hx
  have h2 := opnd_VR hfr hG hy
  generalize opnd E.glob fr x = X at h1 hv
  generalize opnd E.glob fr y = Y at h2 hv
  unfold binV at hv
  split at hv
  · exact gives_shift hs h1.int_inv h2.int_inv (.inl rfl) hv
  · exact gives_shift hs h1.int_inv h2.int_inv (.inr rfl) hv
  · rename_i k1 a1 k2 a2 _ _
    split at hv
    · rename_i hk12
      subst hk12
      exact gives_bin_int hs h1.int_inv h2.int_inv hv
    · cases hv
  · exact gives_bin_str hs h1 h2 hv
  · cases hv

theorem sound_un {o : UnOp} {x : AOpd} {x' : Operand} {t : TypeId} (hx : okOpd x x' = true) (hr : oV E s k (unV o (opnd E.glob fr x)) = r) : ∃ v s', k v s' = r ∧ Does P (.unOp o t x') ty a.eval κ s w v s' := by
  obtain ⟨v, hv, hk⟩ := oV_inv hs hE hfr hG hf hr
  refine ⟨v, s, hk, .inl ?_⟩
  have h1 := opnd_VR hfr hG hx
  generalize opnd E.glob fr x = X at h1 hv
  unfold unV at hv
  split at hv
  · simp only [Option.some.injEq] at hv; subst hv; exact gives_un_neg hs h1.int_inv
  · simp only [Option.some.injEq] at hv; subst hv; exact gives_un_xor hs h1.int_inv
  · simp only [Option.some.injEq] at hv; subst hv; exact gives_un_not hs h1.bool_inv
  · cases hv

theorem sound_fold {f : AV → AV → Option AV} {g : Value → Value → Sem Value} (hfg : ∀ x y z X Y, f x y = some z → VR κ (s.depth + 1) x X → VR κ (s.depth + 1) y Y → ∃ Z, (g X Y).run P w = .ok Z w ∧ VR κ (s.depth + 1) z Z) {xs : List AOpd} {ys : List Operand} (hxs : okOpds xs ys = true)
    {o : Op} (ho : ∀ x rest, ys.map a.eval = x :: rest → ∀ dst pos after guard, execOp a.eval ⟨dst, o, ty, pos, after, guard⟩ = (do pure (.value (← rest.foldlM g x)) : Sem Next))
    (hr : foldOp E s k f (xs.map fun x => (opnd E.glob fr x).pub s.depth) = r) : ∃ v s', k v s' = r ∧ Does P o ty a.eval κ s w v s' := by
  have hv := opnds_VRs hfr hG xs ys hxs
  cases hX : xs.map (fun x => (opnd E.glob fr x).pub s.depth) with
  | nil => rw [hX] at hr; exact absurd hr.symm hf
  | cons x l =>
    rw [hX] at hr hv
    cases hY : ys.map a.eval with
    | nil => rw [hY] at hv; exact absurd hv.1 (by simp)
    | cons Y L =>
      rw [hY] at hv
      simp only [foldOp] at hr
      obtain ⟨v, h1, hk⟩ := oV_inv hs hE hfr hG hf hr
      obtain ⟨V, h2, h3⟩ := run_fold f g hfg l L x v Y h1 (hv.2 0 x Y rfl rfl) ⟨by have := hv.1; simpa using this, fun j c y hc hy => hv.2 (j + 1) c y (by simpa using hc) (by simpa using hy)⟩
      refine ⟨v, s, hk, .inl (gives_same hs V (fun dst pos after guard => ?_) (by rw [h3.pub_eq]; exact h3))⟩
      rw [ho Y L hY]
      simp [h2]

theorem gv {o : Op} {ρ : Operand → Value} {v : AV} {s' : St} (hk : k v s' = r) (h : Gives P o ty ρ κ s w v s') : ∃ v s', k v s' = r ∧ Does P o ty ρ κ s w v s' := ⟨v, s', hk, .inl h⟩
theorem gv1 {o : Op} {ρ : Operand → Value} (h : ∃ v, k v s = r ∧ Gives P o ty ρ κ s w v s) : ∃ v s', k v s' = r ∧ Does P o ty ρ κ s w v s' := by
  obtain ⟨v, h1, h2⟩ := h
  exact ⟨v, s, h1, .inl h2⟩
theorem gv2 {o : Op} {ρ : Operand → Value} (h : ∃ v s', k v s' = r ∧ Gives P o ty ρ κ s w v s') : ∃ v s', k v s' = r ∧ Does P o ty ρ κ s w v s' := by
  obtain ⟨v, s', h1, h2⟩ := h
  exact ⟨v, s', h1, .inl h2⟩

include hC in
theorem callV_sound {f : Nat} {args : List AV} {xs : List Value} {o : Op} {ρ : Operand → Value} (hx : VRs κ (s.depth + 1) args xs) (ho : ∀ dst pos after guard, execOp ρ ⟨dst, o, ty, pos, after, guard⟩ = callFunc f xs.toArray) (hr : callV E s k kp f args = r) : ∃ v s', k v s' = r ∧ Does P o ty ρ κ s w v s' := by
  unfold callV at hr
  cases hc : E.call f args s with
  | fail => rw [hc] at hr; exact absurd hr.symm hf
  | panic v s' => exact absurd hc (hC.nopanic _ _ _ _ _)
  | ok v s' =>
    rw [hc] at hr
    obtain ⟨_, hr1⟩ := bif_cases hr hf
    exact ⟨v, s', hr1, does_of_call hC hs hG hc hx ho⟩
include hC in
theorem callPV_sound {f : Nat} {args : List AV} {xs : List Value} {o : Op} {ρ : Operand → Value} (hx : VRs κ (s.depth + 1) args xs) (ho : ∀ dst pos after guard, execOp ρ ⟨dst, o, ty, pos, after, guard⟩ = callFunc f xs.toArray) (hr : callPV E s k f args = r) : ∃ v s', k v s' = r ∧ Does P o ty ρ κ s w v s' := by
  unfold callPV at hr
  obtain ⟨hb, hr1⟩ := bif_cases hr hf
  cases hc : E.call f args { own := [], up := [], ro := [] } with
  | fail => rw [hc] at hr1; exact absurd hr1.symm hf
  | panic v s' => exact absurd hc (hC.nopanic _ _ _ _ _)
  | ok v s' =>
    rw [hc] at hr1
    obtain ⟨hb2, hr2⟩ := bif_cases hr1 hf
    exact ⟨v, s, hr2, does_of_callP hC hs hG hc hb2 hx hb ho⟩

include hT hC in
theorem step_sound {ao : AOp} {op : Op} (h : okOp T ao op = true) (hr : stepOp E fr s k kp ao = r) : ∃ v s', k v s' = r ∧ Does P op ty a.eval κ s w v s' := by
  have hF : E.F = .not := hE
  cases ao with
  | move x =>
    simp only [stepOp, hE, Force.not] at hr
    simp only [okOp] at h
    split at h
    · exact gv hs hE hfr hG hf hr (gives_move hs (opnd_VR hfr hG h))
    · exact gv hs hE hfr hG hf hr (gives_assign hs (opnd_VR hfr hG h))
    · cases h
  | moveF x =>
    simp only [stepOp] at hr
    simp only [okOp] at h
    split at h
    · exact gv2 hs hE hfr hG hf (gives_moveF hs hE hf (fun _ _ _ _ => by simp [execOp]) (opnd_VR hfr hG h) hr)
    · exact gv2 hs hE hfr hG hf (gives_moveF hs hE hf (fun _ _ _ _ => by simp [execOp]) (opnd_VR hfr hG h) hr)
    · cases h
  | pick c x y =>
    simp only [stepOp] at hr
    simp only [okOp] at h
    split at h
    · simp only [Bool.and_eq_true] at h
      have hc := opnd_VR hfr hG h.1.1
      generalize opnd E.glob fr c = X at hc hr
      cases X <;> simp only [pickV, hE, Force.not] at hr <;> try exact absurd hr.symm hf
      exact gv hs hE hfr hG hf hr (gives_pick hs hc.bool_inv (opnd_VR hfr hG h.1.2) (opnd_VR hfr hG h.2))
    · cases h
  | alloc z =>
    simp only [stepOp, hE, Force.not] at hr
    simp only [okOp] at h
    split at h
    · exact gv hs hE hfr hG hf hr (gives_alloc hs (hT.zero h))
    · cases h
  | boxRo x =>
    simp only [stepOp, hE, Force.not] at hr
    simp only [okOp] at h
    obtain ⟨hb, hr1⟩ := bif_cases hr hf
    split at h
    · exact gv hs hE hfr hG hf hr1 (gives_boxRo hs (opnd_VR hfr hG h) hb)
    · cases h
  | boxMut x =>
    simp only [stepOp, hE, Force.not] at hr
    simp only [okOp] at h
    obtain ⟨hb, hr1⟩ := bif_cases hr hf
    split at h
    · exact gv hs hE hfr hG hf hr1 (gives_boxMut hs (opnd_VR hfr hG h) hb)
    · cases h
  | build z ps =>
    simp only [stepOp] at hr
    simp only [okOp] at h
    obtain ⟨v, h1, hk⟩ := oV_inv hs hE hfr hG hf hr
    cases hfp : fillParts E.glob s.depth fr z ps with
    | none => rw [hfp] at h1; cases h1
    | some cs =>
      rw [hfp] at h1
      simp only [Option.map_some, Option.some.injEq] at h1
      subst h1
      split at h
      · rename_i t qs
        split at h
        · rename_i fs ht
          split at h
          · rename_i pl hpl
            simp only [Bool.and_eq_true] at h
            have := gives_build_struct (ty := ty) hs hfr hG (hT.und _ _ ht) (hT.zero h.1) (pl := pl.toArray) (by simpa using fieldsAt_sound hT _ _ hpl) h.2 hfp
            exact gv hs hE hfr hG hf hk (by simpa using this)
          · cases h
        · rename_i n el ht
          split at h
          · rename_i sz hsz
            simp only [Bool.and_eq_true] at h
            have := gives_build_array (ty := ty) hs hfr hG (hT.und _ _ ht) (hT.size hsz) (hT.zero h.1) h.2 hfp
            exact gv hs hE hfr hG hf hk (by simpa using this)
          · cases h
        · cases h
      · cases h
  | buildSlice sz ps =>
    simp only [stepOp, buildSliceV, hE, Force.not] at hr
    simp only [okOp] at h
    obtain ⟨hb, hr1⟩ := bif_cases hr hf
    split at h
    · rename_i t len qs
      split at h
      · rename_i el ht
        simp only [Bool.and_eq_true, beq_iff_eq] at h
        obtain ⟨⟨⟨⟨⟨h1, h2⟩, h3⟩, h4⟩, h5⟩, h6⟩ := h
        obtain ⟨ys, e, hok⟩ := okPartsS_sound 0 ps qs.toList h6
        have hlen : ps.length = ys.length := by
          have : ∀ (ps : List AOpd) (qs : List Operand), okOpds ps qs = true → ps.length = qs.length := by
            intro ps
            induction ps with
            | nil => intro qs h; cases qs <;> simp [okOpds] at h ⊢
            | cons p ps ih => intro qs h; cases qs with
              | nil => simp [okOpds] at h
              | cons q qs => simp only [okOpds, Bool.and_eq_true] at h; simp [ih qs h.2]
          exact this ps ys hok
        have hl : len = ys.length := by rw [← hlen]; exact Nat.eq_of_beq_eq_true h4
        simp only [Bool.and_eq_true, List.all_eq_true, Nat.beq_eq_true_eq] at hb
        have h5' := Nat.le_of_ble_eq_true h5
        have := gives_buildSlice (ty := ty) hs hfr hG (hT.und _ _ ht) (hT.size h1) (hT.zero h2) (Nat.eq_of_beq_eq_true h3) (by rw [← hl]; omega) hok hb.1 (fun e he => ⟨(hb.2 e he).1, Nat.eq_of_beq_eq_true (hb.2 e he).2⟩)
        rw [← e] at this
        rw [hl]
        exact gv hs hE hfr hG hf hr1 (by simpa using this)
      · cases h
    · cases h
  | load n x =>
    simp only [stepOp] at hr
    simp only [okOp] at h
    split at h
    · simp only [Bool.and_eq_true] at h
      exact gv1 hs hE hfr hG hf (gives_load hs hE hf (hT.load h.1) (opnd_VR hfr hG h.2) hr)
    · cases h
  | store n x v =>
    simp only [stepOp] at hr
    simp only [okOp] at h
    split at h
    · simp only [Bool.and_eq_true, beq_iff_eq] at h
      exact gv2 hs hE hfr hG hf (gives_store hs hE hf (hT.size h.1.1) (opnd_VR hfr hG h.1.2) (opnd_VR hfr hG h.2) hr)
    · cases h
  | nilCheck x =>
    simp only [stepOp] at hr
    simp only [okOp] at h
    split at h
    · have hx := opnd_VR hfr hG h
      generalize opnd E.glob fr x = X at hx hr
      unfold nilCheckV at hr
      split at hr
      · simp only [hE, Force.not] at hr
        exact gv hs hE hfr hG hf hr (gives_nilCheck hs hx (by assumption))
      · exact absurd hr.symm hf
    · cases h
  | bin o x y =>
    simp only [stepOp] at hr
    simp only [okOp] at h
    split at h
    · simp only [Bool.and_eq_true, opEq, decide_eq_true_eq] at h
      obtain ⟨⟨rfl, h2⟩, h3⟩ := h
      exact sound_bin hs hE hfr hG hf h2 h3 hr
    · cases h
  | eq neg e x y =>
    simp only [stepOp] at hr
    simp only [okOp] at h
    obtain ⟨v, h1, hk⟩ := oV_inv hs hE hfr hG hf hr
    split at h
    · split at h
      · rename_i d ht
        simp only [Bool.and_eq_true, opEq, decide_eq_true_eq] at h
        obtain ⟨⟨⟨e1, h2⟩, h3⟩, h4⟩ := h
        cases he : eqV e (opnd E.glob fr x) (opnd E.glob fr y) with
        | none => rw [he] at h1; cases h1
        | some b =>
          rw [he] at h1
          simp only [Option.map_some, Option.some.injEq] at h1
          subst h1
          exact gv hs hE hfr hG hf hk (gives_eq hs e1 (hT.und _ _ ht) h2 (opnd_VR hfr hG h3) (opnd_VR hfr hG h4) he)
      · cases h
    · cases h
  | un o x =>
    simp only [stepOp] at hr
    simp only [okOp] at h
    split at h
    · simp only [Bool.and_eq_true, decide_eq_true_eq] at h
      obtain ⟨rfl, h2⟩ := h
      exact sound_un hs hE hfr hG hf h2 hr
    · cases h
  | convInt d x =>
    simp only [stepOp] at hr
    simp only [okOp] at h
    split at h
    · split at h
      · rename_i hsrc hdst
        simp only [Bool.and_eq_true, decide_eq_true_eq] at h
        obtain ⟨rfl, h2⟩ := h
        have hx := opnd_VR hfr hG h2
        generalize opnd E.glob fr x = X at hx hr
        cases X <;> simp only [convIntV, hE, Force.not] at hr <;> try exact absurd hr.symm hf
        exact gv hs hE hfr hG hf hr (gives_convInt hs (hT.und _ _ hsrc) (hT.und _ _ hdst) hx.int_inv)
      · cases h
    · cases h
  | convId x =>
    simp only [stepOp] at hr
    simp only [okOp] at h
    split at h
    · split at h
      · rename_i hsrc hdst
        have hx := opnd_VR hfr hG h
        generalize opnd E.glob fr x = X at hx hr
        cases X <;> simp only [convIdV] at hr <;> try exact absurd hr.symm hf
        exact gv hs hE hfr hG hf hr (gives_convId hs (hT.und _ _ hsrc) (hT.und _ _ hdst) hx)
      · cases h
    · cases h
  | bytesToStr x =>
    simp only [stepOp] at hr
    simp only [okOp] at h
    split at h
    · split at h
      · rename_i hsrc hdst
        split at h
        · rename_i hel
          exact gv1 hs hE hfr hG hf (gives_bytesToStr hs hE hf (hT.und _ _ hsrc) (hT.und _ _ hel) (hT.und _ _ hdst) (opnd_VR hfr hG h) hr)
        · cases h
      · cases h
    · cases h
  | strToBytes x =>
    simp only [stepOp] at hr
    simp only [okOp] at h
    split at h
    · split at h
      · rename_i hsrc hdst
        split at h
        · rename_i hel
          exact gv1 hs hE hfr hG hf (gives_strToBytes hs hE hf (hT.und _ _ hsrc) (hT.und _ _ hdst) (hT.und _ _ hel) (opnd_VR hfr hG h) hr)
        · cases h
      · cases h
    · cases h
  | mkIface t x =>
    simp only [stepOp, hE, Force.not] at hr
    simp only [okOp] at h
    split at h
    · split at h
      · cases h
      · rename_i d hd ht
        simp only [Bool.and_eq_true] at h
        have := Nat.eq_of_beq_eq_true h.1
        subst this
        exact gv hs hE hfr hG hf hr (gives_mkIface hs (hT.und _ _ ht) (by cases d <;> first | rfl | exact absurd rfl (hd _)) (opnd_VR hfr hG h.2))
      · cases h
    · cases h
  | mkFunc f caps =>
    simp only [stepOp, hE, Force.not] at hr
    simp only [okOp] at h
    split at h
    · rename_i f' first caps'
      simp only [Bool.and_eq_true] at h
      have e1 := Nat.eq_of_beq_eq_true h.1.1
      have e2 : first = #[] := Array.eq_empty_of_size_eq_zero (Nat.eq_of_beq_eq_true h.1.2)
      subst e1
      subst e2
      have := gives_mkFunc (P := P) (ty := ty) hs (f := f) hfr hG h.2
      exact gv hs hE hfr hG hf hr (by simpa using this)
    · cases h
  | makeSlice z bytes l c =>
    simp only [stepOp] at hr
    simp only [okOp] at h
    split at h
    · split at h
      · rename_i ht
        simp only [Bool.and_eq_true, beq_iff_eq] at h
        obtain ⟨⟨⟨⟨⟨h1, h2⟩, h3⟩, h4⟩, h5⟩, h6⟩ := h
        exact gv2 hs hE hfr hG hf (gives_makeSlice hs hE hf (hT.und _ _ ht) (hT.zero h1) (hT.size h2) (hT.bytes h3) (by simpa [Nat.blt_eq] using h4) (opnd_VR hfr hG h5) (opnd_VR hfr hG h6) hr)
      · cases h
    · cases h
  | subStr x lo hi =>
    simp only [stepOp] at hr
    simp only [okOp] at h
    split at h
    · split at h
      · rename_i ht
        simp only [Bool.and_eq_true] at h
        exact gv1 hs hE hfr hG hf (gives_subStr hs hE hf hfr hG (hT.und _ _ ht) h.1.1 h.1.2 h.2 hr)
      · cases h
    · cases h
  | slice sz x lo hi mx =>
    simp only [stepOp] at hr
    simp only [okOp] at h
    split at h
    · split at h
      · rename_i ht
        simp only [Bool.and_eq_true, beq_iff_eq] at h
        obtain ⟨⟨⟨⟨⟨h1, h2⟩, h3⟩, h4⟩, h5⟩, h6⟩ := h
        exact gv1 hs hE hfr hG hf (gives_slice hs hE hf hfr hG (hT.und _ _ ht) (hT.size h1) h2 h3 h4 h5 (by
          intro hm
          rw [hm] at h6
          simpa using h6) hr)
      · cases h
    · cases h
  | fieldAddr off x =>
    simp only [stepOp] at hr
    simp only [okOp] at h
    split at h
    · split at h
      · rename_i ht
        split at h
        · rename_i hfi
          split at h
          · rename_i hz
            simp only [Bool.and_eq_true] at h
            exact gv1 hs hE hfr hG hf (gives_fieldAddr hs hE hf (hT.und _ _ ht) hfi (Nat.eq_of_beq_eq_true h.1.1) (hT.size hz) (by have := h.1.2; rw [Nat.blt_eq] at this; omega) (opnd_VR hfr hG h.2) hr)
          · cases h
        · cases h
      · cases h
    · cases h
  | field off n x =>
    simp only [stepOp] at hr
    simp only [okOp] at h
    split at h
    · split at h
      · rename_i ht
        split at h
        · rename_i hfi
          simp only [Bool.and_eq_true] at h
          exact gv1 hs hE hfr hG hf (gives_field hs hE hf (hT.und _ _ ht) hfi (Nat.eq_of_beq_eq_true h.1.1) (hT.load h.1.2) (opnd_VR hfr hG h.2) hr)
        · cases h
      · cases h
    · cases h
  | idxSl sz x i =>
    simp only [stepOp] at hr
    simp only [okOp] at h
    split at h
    · split at h
      · rename_i ht
        simp only [Bool.and_eq_true, beq_iff_eq] at h
        exact gv1 hs hE hfr hG hf (gives_idxSl hs hE hf (hT.und _ _ ht) (hT.size h.1.1) (opnd_VR hfr hG h.1.2) (opnd_VR hfr hG h.2) hr)
      · cases h
    · cases h
  | idxArr sz len x i =>
    simp only [stepOp] at hr
    simp only [okOp] at h
    split at h
    · split at h
      · rename_i ht
        simp only [Bool.and_eq_true, beq_iff_eq] at h
        have := Nat.eq_of_beq_eq_true h.1.1.1
        subst this
        exact gv1 hs hE hfr hG hf (gives_idxArr hs hE hf (hT.und _ _ ht) (hT.size h.1.1.2) (opnd_VR hfr hG h.1.2) (opnd_VR hfr hG h.2) hr)
      · cases h
    · cases h
  | idxStr x i =>
    simp only [stepOp] at hr
    simp only [okOp] at h
    split at h
    · split at h
      · rename_i ht
        simp only [Bool.and_eq_true] at h
        exact gv1 hs hE hfr hG hf (gives_idxStr hs hE hf (hT.und _ _ ht) (opnd_VR hfr hG h.1) (opnd_VR hfr hG h.2) hr)
      · cases h
    · cases h
  | idxAgg sz len n x i =>
    simp only [stepOp] at hr
    simp only [okOp] at h
    split at h
    · split at h
      · rename_i ht
        simp only [Bool.and_eq_true, beq_iff_eq] at h
        have := Nat.eq_of_beq_eq_true h.1.1.1.1
        subst this
        exact gv1 hs hE hfr hG hf (gives_idxAgg hs hE hf (hT.und _ _ ht) (hT.size h.1.1.1.2) (hT.load h.1.1.2) (opnd_VR hfr hG h.1.2) (opnd_VR hfr hG h.2) hr)
      · cases h
    · cases h
  | extract x i =>
    simp only [stepOp] at hr
    simp only [okOp] at h
    split at h
    · simp only [Bool.and_eq_true] at h
      have := Nat.eq_of_beq_eq_true h.1
      subst this
      have hx := opnd_VR hfr hG h.2
      generalize opnd E.glob fr x = X at hx hr
      cases X <;> simp only [extractV] at hr <;> try exact absurd hr.symm hf
      rename_i vs
      obtain ⟨v, h1, hk⟩ := oV_inv hs hE hfr hG hf hr
      obtain ⟨xs, ex, hl, hv⟩ := VR.tup_inv (x := a.eval _) hx
      have hi := (List.getElem?_eq_some_iff.1 h1).1
      exact gv hs hE hfr hG hf hk (gives_extract hs hx h1 ((hv i v _ h1 (List.getElem?_eq_getElem (by omega : i < xs.length))).pub_eq _))
    · cases h
  | call f xs =>
    simp only [stepOp, hE, Force.not] at hr
    simp only [okOp] at h
    split at h
    · rename_i c
      split at h
      · rename_i f' hc
        simp only [Bool.and_eq_true] at h
        have := Nat.eq_of_beq_eq_true h.1
        subst this
        exact callV_sound hs hE hC hfr hG hf (opnds_VRs hfr hG _ _ h.2) (fun dst pos after guard => by rw [exec_call ⟨_, hc, rfl⟩]; simp) hr
      · cases h
    · cases h
  | callP f xs =>
    simp only [stepOp, hE, Force.not] at hr
    simp only [okOp] at h
    split at h
    · rename_i c
      split at h
      · rename_i f' hc
        simp only [Bool.and_eq_true] at h
        have := Nat.eq_of_beq_eq_true h.1
        subst this
        exact callPV_sound hs hE hC hfr hG hf (opnds_VRs hfr hG _ _ h.2) (fun dst pos after guard => by rw [exec_call ⟨_, hc, rfl⟩]; simp) hr
      · cases h
    · cases h
  | callV g xs =>
    simp only [stepOp] at hr
    simp only [okOp] at h
    split at h
    · rename_i c
      split at h
      · rename_i g' hc
        simp only [Bool.and_eq_true] at h
        have hx := opnd_VR hfr hG h.1
        generalize opnd E.glob fr g = X at hx hr
        cases X <;> simp only [callFV, hE, Force.not] at hr <;> try exact absurd hr.symm hf
        obtain ⟨ys, ey, hv⟩ := VR.fn_inv (x := a.eval _) hx
        exact callV_sound hs hE hC hfr hG hf ((opnds_VRs hfr hG _ _ h.2).append hv) (fun dst pos after guard => by rw [exec_call ⟨_, hc, ey⟩]) hr
      · cases h
    · cases h
  | callVP g xs =>
    simp only [stepOp] at hr
    simp only [okOp] at h
    split at h
    · rename_i c
      split at h
      · rename_i g' hc
        simp only [Bool.and_eq_true] at h
        have hx := opnd_VR hfr hG h.1
        generalize opnd E.glob fr g = X at hx hr
        cases X <;> simp only [callFPV, hE, Force.not] at hr <;> try exact absurd hr.symm hf
        obtain ⟨ys, ey, hv⟩ := VR.fn_inv (x := a.eval _) hx
        exact callPV_sound hs hE hC hfr hG hf ((opnds_VRs hfr hG _ _ h.2).append hv) (fun dst pos after guard => by rw [exec_call ⟨_, hc, ey⟩]) hr
      · cases h
    · cases h
  | len b x =>
    simp only [stepOp] at hr
    simp only [okOp] at h
    split at h
    · split at h
      · rename_i ht
        simp only [Bool.and_eq_true] at h
        exact gv1 hs hE hfr hG hf (gives_len hs hE hf (hT.und _ _ ht) (.inl ⟨h.1, rfl⟩) (opnd_VR hfr hG h.2) hr)
      · rename_i el ht
        simp only [Bool.and_eq_true, Bool.not_eq_true'] at h
        exact gv1 hs hE hfr hG hf (gives_len hs hE hf (hT.und _ _ ht) (.inr ⟨h.1, el, rfl⟩) (opnd_VR hfr hG h.2) hr)
      · cases h
    · cases h
  | append sz bytes at_ x y =>
    simp only [stepOp, appendOp] at hr
    simp only [okOp] at h
    split at hr
    rotate_left
    · exact absurd hr.symm hf
    split at h
    · rename_i x' y' t t2
      split at h
      · rename_i el ht
        split at h
        · rename_i n b z hi
          simp only [Bool.and_eq_true] at h
          obtain ⟨⟨⟨⟨⟨⟨⟨h1, h2⟩, h3⟩, h4⟩, h5⟩, h6⟩, h7⟩, h8⟩ := h
          have e1 := Nat.eq_of_beq_eq_true h2
          have e2 := Nat.eq_of_beq_eq_true h3
          subst e1
          subst e2
          refine gv2 hs hE hfr hG hf (gives_append hs hE hf (z := z) ⟨hT.und _ _ ht, ?_, hT.info _ _ _ _ hi, Nat.eq_of_beq_eq_true h4, by simpa [Nat.blt_eq] using h5, Nat.le_of_ble_eq_true h6⟩ (opnd_VR hfr hG h7) (opnd_VR hfr hG h8) hr)
          split at h1
          · rename_i ht2; exact .inl ⟨_, hT.und _ _ ht2⟩
          · rename_i ht2; exact .inr (hT.und _ _ ht2)
          · cases h1
        · cases h
      · cases h
    · cases h
  | copy sz x y =>
    simp only [stepOp] at hr
    simp only [okOp] at h
    split at h
    · rename_i x' y' t t2
      split at h
      · rename_i el ht
        simp only [Bool.and_eq_true, beq_iff_eq] at h
        have hx := opnd_VR hfr hG h.1.2
        generalize opnd E.glob fr x = X at hx hr
        cases X <;> simp only [copyOp] at hr <;> try exact absurd hr.symm hf
        rename_i al off len cap q
        obtain ⟨hq, hr1⟩ := bif_cases hr hf
        have := Nat.eq_of_beq_eq_true hq
        subst this
        exact gv2 hs hE hfr hG hf (gives_copy hs hE hf (hT.und _ _ ht) (hT.size h.1.1) (fun a' off' len' cap' q' e => by cases e; rfl) hx (opnd_VR hfr hG h.2) hr1)
      · cases h
    · cases h
  | min xs =>
    simp only [stepOp] at hr
    simp only [okOp] at h
    split at h
    · rename_i c
      split at h
      · rename_i hc
        refine sound_fold hs hE hfr hG hf (g := Builtin.min2) min2_run h (fun x rest hY dst pos after guard => ?_) hr
        have hY' : (c.args.map a.eval).toList = x :: rest := by rw [Array.toList_map]; exact hY
        simp only [execOp, resolve, hc, pure_bind, invoke, builtin, Builtin.min_, hY']
      · cases h
    · cases h
  | max xs =>
    simp only [stepOp] at hr
    simp only [okOp] at h
    split at h
    · rename_i c
      split at h
      · rename_i hc
        refine sound_fold hs hE hfr hG hf (g := Builtin.max2) max2_run h (fun x rest hY dst pos after guard => ?_) hr
        have hY' : (c.args.map a.eval).toList = x :: rest := by rw [Array.toList_map]; exact hY
        simp only [execOp, resolve, hc, pure_bind, invoke, builtin, Builtin.max_, hY']
      · cases h
    · cases h
  | makeMap at_ =>
    simp only [stepOp] at hr
    simp only [okOp] at h
    split at h
    · exact gv2 hs hE hfr hG hf (gives_makeMap hs hE hf hr)
    · cases h
  | mapPut kd m x v =>
    simp only [stepOp] at hr
    simp only [okOp] at h
    have key : ∀ {t : TypeId} {m' x' v' : Operand} {o : Op}, (match T.und t with
      | some (.map kt _) =>
        match T.und kt with
        | some d => okKD kd d && okOpd m m' && okOpd x x' && okOpd v v'
        | none => false
      | _ => false) = true → (∀ dst pos after guard, execOp a.eval ⟨dst, o, ty, pos, after, guard⟩ = (do Instr.mapUpdate t (a.eval m') (a.eval x') (a.eval v'); pure .skip : Sem Next)) → ∃ v s', k v s' = r ∧ Does P o ty a.eval κ s w v s' := by
      intro t m' x' v' o h ho
      split at h
      · rename_i kt et ht
        split at h
        · rename_i d hd
          simp only [Bool.and_eq_true] at h
          exact gv2 hs hE hfr hG hf (gives_mapPut hs hE hf (hT.und _ _ ht) (hT.und _ _ hd) h.1.1.1 (opnd_VR hfr hG h.1.1.2) (opnd_VR hfr hG h.1.2) (opnd_VR hfr hG h.2) ho hr)
        · cases h
      · cases h
    split at h
    · exact key h (fun _ _ _ _ => rfl)
    · exact key h (fun _ _ _ _ => rfl)
    · cases h
  | lookup kd z ok m x =>
    simp only [stepOp] at hr
    simp only [okOp] at h
    split at h
    · split at h
      · rename_i kt et ht
        split at h
        · rename_i d n b Z hd hi
          simp only [Bool.and_eq_true, beq_iff_eq] at h
          obtain ⟨⟨⟨⟨h1, h2⟩, h3⟩, h4⟩, h5⟩ := h
          subst h3
          obtain ⟨i, i1, _, _, i2⟩ := hT.info _ _ _ _ hi
          exact gv1 hs hE hfr hG hf (gives_lookup hs hE hf (hT.und _ _ ht) (hT.und _ _ hd) h1 i1 i2 h2 (opnd_VR hfr hG h4) (opnd_VR hfr hG h5) hr)
        · cases h
      · cases h
    · cases h
  | callC ks f xs =>
    simp only [stepOp, hE, Force.not] at hr
    simp only [okOp] at h
    split at h
    · rename_i c
      split at h
      · rename_i f' hc
        simp only [Bool.and_eq_true] at h
        have := Nat.eq_of_beq_eq_true h.1
        subst this
        obtain ⟨v, s', e1, e2⟩ := callV_sound (ty := ty) (ρ := a.eval) (o := .call c) hs hE hC hfr hG hf (opnds_VRs hfr hG _ _ h.2) (fun dst pos after guard => by rw [exec_call ⟨_, hc, rfl⟩]; simp) hr
        exact ⟨v, s', bif_cases e1 hf |>.2, e2⟩
      · cases h
    · cases h
  | callVC ks g xs =>
    simp only [stepOp] at hr
    simp only [okOp] at h
    split at h
    · rename_i c
      split at h
      · rename_i g' hc
        simp only [Bool.and_eq_true] at h
        have hx := opnd_VR hfr hG h.1
        generalize opnd E.glob fr g = X at hx hr
        cases X <;> simp only [callFCV, hE, Force.not] at hr <;> try exact absurd hr.symm hf
        obtain ⟨ys, ey, hv⟩ := VR.fn_inv (x := a.eval _) hx
        obtain ⟨v, s', e1, e2⟩ := callV_sound (ty := ty) (ρ := a.eval) (o := .call c) hs hE hC hfr hG hf ((opnds_VRs hfr hG _ _ h.2).append hv) (fun dst pos after guard => by rw [exec_call ⟨_, hc, ey⟩]) hr
        exact ⟨v, s', bif_cases e1 hf |>.2, e2⟩
      · cases h
    · cases h
  | nilI neg x =>
    simp only [stepOp] at hr
    simp only [okOp] at h
    obtain ⟨v, h1, hk⟩ := oV_inv hs hE hfr hG hf hr
    split at h
    · split at h
      · rename_i ht
        simp only [Bool.and_eq_true, opEq, decide_eq_true_eq] at h
        exact gv hs hE hfr hG hf hk (gives_nilI hs h.1 (hT.und _ _ ht) (opnd_VR hfr hG h.2) rfl h1)
      · cases h
    · cases h
  | no => exact absurd hr.symm hf
end
end Go.Ab
