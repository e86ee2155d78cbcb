/- A function's call, abstract and machine's: what it hands back. -/
import Derived.Test.YtnafklimohmfkaaDoorCall
namespace Go.Ab
set_option linter.unusedSimpArgs false
set_option linter.unusedSectionVars false

theorem mapO_inv {α β : Type} {f : α → Option β} : ∀ {xs : List α} {ys : List β}, mapO f xs = some ys → ys.length = xs.length ∧ ∀ (j : Nat) (y : β), ys[j]? = some y → ∃ x, xs[j]? = some x ∧ f x = some y
  | [], ys, h => by
    simp only [mapO, Option.some.injEq] at h
    subst h
    exact ⟨rfl, fun j y hj => by simp at hj⟩
  | x :: xs, ys, h => by
    simp only [mapO] at h
    cases hx : f x with
    | none => rw [hx] at h; cases h
    | some y =>
      rw [hx] at h
      simp only [Option.bind_some] at h
      cases hm : mapO f xs with
      | none => rw [hm] at h; cases h
      | some l =>
        rw [hm] at h
        simp only [Option.map_some, Option.some.injEq] at h
        subst h
        obtain ⟨h1, h2⟩ := mapO_inv hm
        refine ⟨by simp [h1], fun j z hj => ?_⟩
        cases j with
        | zero => simp at hj; subst hj; exact ⟨x, rfl, hx⟩
        | succ j => simpa using h2 j z (by simpa using hj)

theorem run_mapM_list {P : Program} {w : World} {α β : Type} (f : α → Sem β) : ∀ (rs : List α) (xs : List β), xs.length = rs.length → (∀ (j : Nat) (r : α) (x : β), rs[j]? = some r → xs[j]? = some x → (f r).run P w = .ok x w) → (rs.mapM f).run P w = .ok xs w
  | [], [], _, _ => by simp
  | [], _ :: _, h, _ => by simp at h
  | _ :: _, [], h, _ => by simp at h
  | r :: rs, x :: xs, h, hj => by
    have h1 := hj 0 r x rfl rfl
    have h2 := run_mapM_list f rs xs (by simpa using h) (fun j r x hr hx => hj (j + 1) r x (by simpa using hr) (by simpa using hx))
    simp [List.mapM_cons, h1, h2]

section
variable {P : Program} {κ : Kap} {s : St} {w : World}

/-- A frame's own objects no longer change. -/
theorem Sim.freezeOwn (hs : Sim κ s w) : ∀ n, n ≤ s.own.length → ∃ κ' s', Sim κ' s' w ∧ Ext κ s w κ' s' w ∧ s'.up = s.up ∧ s'.ro = s.ro ∧ s'.own.length = s.own.length ∧ (∀ i, n ≤ i → s'.own[i]? = s.own[i]?) ∧ κ'.loc = κ.loc ∧
    ∀ i cs, i < n → s.own[i]? = some (.cells cs) → ∃ C : Array Value, (∀ j (h : j < C.size), κ'.F ⟨κ.loc s.depth i, j, none⟩ = some C[j]) ∧ VRs κ' (s.depth + 1) cs C.toList
  | 0, _ => ⟨κ, s, hs, .refl _ _ _, rfl, rfl, rfl, fun _ _ => rfl, rfl, fun i cs h => absurd h (Nat.not_lt_zero i)⟩
  | n + 1, hn => by
    obtain ⟨κ', s', h1, h2, h3, h4, h5, h6, h7, h8⟩ := hs.freezeOwn n (by omega)
    have hd : s'.depth = s.depth := h2.depth
    by_cases hc : ∃ cs, s.own[n]? = some (.cells cs)
    · obtain ⟨cs, hcs⟩ := hc
      have hg : s'.get (.g s'.depth n) = some (.cells cs) := by
        simp only [St.get, ↓reduceIte]
        rw [h6 n (Nat.le_refl _), hcs]
      obtain ⟨C, e, fz, c1, c2, c3, c4⟩ := h1.freezeObj (s' := { s' with own := s'.own.set n .gone }) hg (by simp [St.set])
      refine ⟨_, _, c3, h2.trans c4, h3, h4, by simp [h5], fun i hi => ?_, h7, fun i cs' hi hi' => ?_⟩
      · simp only
        rw [List.getElem?_set_ne (by omega), h6 i (by omega)]
      · by_cases hin : i = n
        · subst hin
          rw [hcs] at hi'
          simp only [Option.some.injEq, AObj.cells.injEq] at hi'
          subst hi'
          refine ⟨C, fun j hj => ?_, ?_⟩
          · rw [← h7, ← hd]
            exact freeze_at (Nat.zero_le _) hj
          · rw [hd] at c2
            exact ⟨c2.1, fun j c x hc hx => (c2.2 j c x hc hx).mono (c4.k.low (by omega))⟩
        · obtain ⟨C', r1, r2⟩ := h8 i cs' (by omega) hi'
          exact ⟨C', fun j hj => c4.k.F _ _ (r1 j hj), r2.1, fun j c x hc hx => (r2.2 j c x hc hx).mono (c4.k.low (by omega))⟩
    · refine ⟨κ', s', h1, h2, h3, h4, h5, fun i hi => h6 i (by omega), h7, fun i cs' hi hi' => ?_⟩
      by_cases hin : i = n
      · subst hin; exact absurd ⟨cs', hi'⟩ hc
      · exact h8 i cs' (by omega) hi'

theorem frozen_slice {D off len cap sz b : Nat} {cs : List AV} {C : Array Value} (hF : ∀ j (h : j < C.size), κ.F ⟨b, j, none⟩ = some C[j]) (hv : VRs κ D cs C.toList) (hlc : len ≤ cap) (h1 : AV.reflessL (chunk sz len (cs.drop off)) = true) (h2 : off + len * sz ≤ cs.length) (hz : sz ≠ 0) (D' : Nat) :
    VR κ D' (.sl sz (chunk sz len (cs.drop off)) (if len = cap then .exact else .any)) (.slice (some ⟨b, off, none⟩) len cap) := by
  obtain ⟨q1, q2⟩ := chunk_cells sz hz len (cs.drop off) (by simp; omega)
  have hl : C.size = cs.length := by simpa using hv.1
  have key : VR κ D (.sl sz (chunk sz len (cs.drop off)) (if len = cap then Gr.exact else Gr.any)) (.slice (some ⟨b, off, none⟩) (chunk sz len (cs.drop off)).length cap) := by
    refine .sl sz _ _ _ _ (fun j => C.getD (off + j) undef) ?_ (by rw [chunk_length]; exact hlc) (fun _ => rfl) q2 (fun e he => reflessL_iff.1 h1 e he) (fun j hj => ?_) (fun j c hc => ?_)
    · by_cases h : len = cap
      · simp [h, GrOK, chunk_length]
      · simp [h, GrOK]
    · rw [q1] at hj
      simp at hj
      have hlt : off + j < C.size := by omega
      rw [add_spot rfl]
      show κ.F ⟨b, off + j, none⟩ = _
      rw [hF _ hlt]
      simp [Array.getD, hlt]
    · rw [q1, List.getElem?_take] at hc
      split at hc
      · rw [List.getElem?_drop] at hc
        obtain ⟨y, hy, hv'⟩ := hv.get hc
        have : C.getD (off + j) undef = y := by
          have hy' : C[off + j]? = some y := by simpa using hy
          simp [Array.getD_eq_getD_getElem?, hy']
        rw [this]
        exact hv'
      · cases hc
  rw [chunk_length] at key
  refine key.refless ?_ D' (fun _ _ h => h)
  split <;> rfl

theorem freeze1_sound {κ' : Kap} (hk : KLe κ κ' (s.depth + 1)) (hfz : ∀ i cs, s.own[i]? = some (.cells cs) → ∃ C : Array Value, (∀ j (h : j < C.size), κ'.F ⟨κ.loc s.depth i, j, none⟩ = some C[j]) ∧ VRs κ' (s.depth + 1) cs C.toList) {v v' : AV} {x : Value} (hv : VR κ (s.depth + 1) (v.pub s.depth) x) (h : freeze1 s v = some v') : VR κ' s.depth v' x := by
  have own : ∀ {i off len cap sz : Nat}, VR κ (s.depth + 1) (.msl (.g s.depth i) off len cap sz) x → freezeOwn s i off len cap sz = some v' → VR κ' s.depth v' x := fun {i off len cap sz} hv h => by
    obtain ⟨e, hd, hi, hlc⟩ := hv.msl_inv
    unfold Ab.freezeOwn at h
    split at h
    · rename_i cs hcs
      simp only at h
      split at h
      · rename_i hb
        simp only [Bool.and_eq_true, Bool.not_eq_true'] at hb
        simp only [Option.some.injEq] at h
        subst h
        obtain ⟨C, r1, r2⟩ := hfz i cs hcs
        rw [e]
        exact frozen_slice r1 r2 hlc hb.1.1 (Nat.le_of_ble_eq_true hb.1.2) (fun h0 => by rw [h0] at hb; simp at hb) _
      · cases h
    · cases h
  have any : ∀ {sz : Nat} {es : List AV} {l : Loc}, VR κ (s.depth + 1) (AV.pub s.depth (.sl sz es (.buf l))) x → VR κ' s.depth (.sl sz es .any) x := fun {sz es l} hv => by
    simp only [AV.pub] at hv
    rcases hv.sl_inv with ⟨_, h2, _⟩ | ⟨a, cap, vals, rfl, hg, hn, hs', h4, h5, h6, h7⟩
    · simp [Gr.pub] at h2
    · refine .sl _ _ _ _ _ vals trivial hn hs' h4 h5 (fun j hj => hk.F _ _ (h6 j hj)) (fun j c hc => (h7 j c hc).refless ?_ _ hk.F)
      obtain ⟨e, he, hce⟩ := List.mem_flatMap.1 (List.mem_of_getElem? hc)
      exact refless_cells (h5 e he) hce
  unfold freeze1 at h
  split at h
  · exact own hv h
  · split at h
    · rename_i hd
      subst hd
      exact own hv h
    · split at h
      · rename_i hlt
        simp only [Option.some.injEq] at h
        subst h
        obtain ⟨e, hd, hi, hlc⟩ := VR.msl_inv hv
        rw [e, ← hk.loc _ _ hd hi]
        exact .msl _ _ _ _ _ _ hlt (Nat.lt_of_lt_of_le hi (hk.n _ hd)) hlc
      · cases h
  · split at h
    · rename_i hlt
      simp only [Option.some.injEq] at h
      subst h
      obtain ⟨e, hd, hi⟩ := VR.ref_inv hv
      rw [e, ← hk.loc _ _ hd hi]
      exact .ref _ _ _ hlt (Nat.lt_of_lt_of_le hi (hk.n _ hd))
    · cases h
  · simp only [Option.some.injEq] at h
    subst h
    exact any hv
  · split at h
    · rename_i hlt
      simp only [Option.some.injEq] at h
      subst h
      have hv : VR κ (s.depth + 1) (.sl _ _ (.buf (.g _ _))) x := hv
      rcases hv.sl_inv with ⟨_, h2, _⟩ | ⟨a, cap, vals, rfl, hg, hn, hs', h4, h5, h6, h7⟩
      · cases h2
      · refine .sl _ _ _ _ _ vals ⟨hlt, (hg.mono hk).2⟩ hn hs' h4 h5 (fun j hj => hk.F _ _ (h6 j hj)) (fun j c hc => (h7 j c hc).refless ?_ _ hk.F)
        obtain ⟨e, he, hce⟩ := List.mem_flatMap.1 (List.mem_of_getElem? hc)
        exact refless_cells (h5 e he) hce
    · simp only [Option.some.injEq] at h
      subst h
      exact any hv
  · split at h
    · rename_i hlt
      simp only [Option.some.injEq] at h
      subst h
      have hv : VR κ (s.depth + 1) (.map (.g _ _)) x := hv
      cases hv
      rename_i hd hi
      rw [← hk.loc _ _ hd hi]
      exact .map _ _ hlt (Nat.lt_of_lt_of_le hi (hk.n _ hd))
    · cases h
  · split at h
    · rename_i hr
      simp only [Option.some.injEq] at h
      subst h
      rw [refless_pub hr] at hv
      exact hv.refless hr _ hk.F
    · cases h

theorem freeze_sound {κ' : Kap} (hk : KLe κ κ' (s.depth + 1)) (hfz : ∀ i cs, s.own[i]? = some (.cells cs) → ∃ C : Array Value, (∀ j (h : j < C.size), κ'.F ⟨κ.loc s.depth i, j, none⟩ = some C[j]) ∧ VRs κ' (s.depth + 1) cs C.toList) {v v' : AV} {x : Value} (hv : VR κ (s.depth + 1) (v.pub s.depth) x) (h : freeze s v = some v') : VR κ' s.depth v' x := by
  unfold freeze at h
  split at h
  · rename_i cs
    cases hm : mapO (freeze1 s) cs with
    | none => rw [hm] at h; cases h
    | some l =>
      rw [hm] at h
      simp only [Option.map_some, Option.some.injEq] at h
      subst h
      obtain ⟨xs, rfl, hl, hx⟩ := VR.agg_inv (cs := cs) hv
      obtain ⟨h1, h2⟩ := mapO_inv hm
      refine .agg l xs (by rw [hl, h1]) (fun j c y hc hy => ?_)
      obtain ⟨c0, q1, q2⟩ := h2 j c hc
      have := hx j c0 y q1 hy
      exact freeze1_sound hk hfz (by rw [this.pub_eq]; exact this) q2
  · exact freeze1_sound hk hfz hv h

def okRes (T : TT) : ARes → ResultVar → Bool
  | .t n, .tmp m => Nat.beq n m
  | .cell a n, .cell b ty => Nat.beq a b && T.load ty n
  | _, _ => false
def okRess (T : TT) : List ARes → List ResultVar → Bool
  | [], [] => true
  | a :: as, b :: bs => okRes T a b && okRess T as bs
  | _, _ => false
theorem okRess_sound {T : TT} : ∀ {as : List ARes} {bs : List ResultVar}, okRess T as bs = true → as.length = bs.length ∧ ∀ (j : Nat) (a : ARes) (b : ResultVar), as[j]? = some a → bs[j]? = some b → okRes T a b = true
  | [], [], _ => ⟨rfl, fun j a b h => by simp at h⟩
  | [], _ :: _, h => by simp [okRess] at h
  | _ :: _, [], h => by simp [okRess] at h
  | a :: as, b :: bs, h => by
    simp only [okRess, Bool.and_eq_true] at h
    obtain ⟨h1, h2⟩ := okRess_sound h.2
    refine ⟨by simp [h1], fun j a' b' ha hb => ?_⟩
    cases j with
    | zero => simp at ha hb; subst ha; subst hb; exact h.1
    | succ j => exact h2 j a' b' (by simpa using ha) (by simpa using hb)

theorem res_sound {T : TT} (hT : T.OK P) {nt : Nat} {G : Nat → AV} {fr : Tr} {a : Act} (h : Run κ s w fr.get a nt G) {rv : ARes} {b : ResultVar} (hok : okRes T rv b = true) {v : AV} (hv : resV fr s rv = some v) :
    ∃ x, (∀ f : ResultVar → Sem Value, (∀ t, f (.tmp t) = Pure.pure (a.tmps.getD t undef)) → (∀ t ty, f (.cell t ty) = (do loadVar ty (← asAddr (a.tmps.getD t undef)) : Sem Value)) → (f b).run P w = .ok x w) ∧ VR κ (s.depth + 1) (v.pub s.depth) x := by
  cases rv with
  | t n =>
    cases b with
    | cell t ty => simp [okRes] at hok
    | tmp m =>
      simp only [okRes] at hok
      have := Nat.eq_of_beq_eq_true hok
      subst this
      simp only [resV, Option.some.injEq] at hv
      subst hv
      exact ⟨_, fun f h1 _ => by rw [h1]; simp, h.fr n⟩
  | cell t n =>
    cases b with
    | tmp m => simp [okRes] at hok
    | cell m ty =>
      simp only [okRes, Bool.and_eq_true] at hok
      have := Nat.eq_of_beq_eq_true hok.1
      subst this
      have hx := h.fr t
      simp only [resV] at hv
      split at hv
      · rename_i al off hal
        rw [hal] at hx
        simp only [AV.pub] at hx
        rw [← St.get_pub] at hv
        cases hp : al.pub s.depth with
        | l i => cases al <;> simp [Loc.pub] at hp
        | g d i =>
          rw [hp] at hx hv
          obtain ⟨e, hd, hi⟩ := hx.ref_inv
          have key : ∀ cs, s.get (.g d i) = some (.cells cs) → loadV { F := .not, glob := G, call := fun _ _ _ => .fail, loop := fun _ _ _ _ _ => .fail } s .ok n (cs.drop off) = .ok v s → ∃ x, (∀ f : ResultVar → Sem Value, (∀ t, f (.tmp t) = Pure.pure (a.tmps.getD t undef)) → (∀ t ty, f (.cell t ty) = (do loadVar ty (← asAddr (a.tmps.getD t undef)) : Sem Value)) → (f (.cell t ty)).run P w = .ok x w) ∧ VR κ (s.depth + 1) (v.pub s.depth) x := fun cs hg hl => by
            obtain ⟨v1, x, q1, q2, q3⟩ := load_any (P := P) (reads_up (reads_obj h.sim hg off) (show d + 1 ≤ s.depth + 1 by omega)) (hT.load hok.2) rfl hl (by simp)
            simp only [Res.ok.injEq] at q1
            obtain ⟨rfl, _⟩ := q1
            refine ⟨x, fun f _ h2 => ?_, by rw [q3.pub_eq]; exact q3⟩
            rw [h2, e]
            simp [asAddr, q2]
          split at hv
          · rename_i cs hg
            refine key cs hg ?_
            simp only [loadV, Force.not]
            cases hdr : cs.drop off with
            | nil =>
              have : (cs.drop off)[0]? = some v := by rw [List.getElem?_drop]; simpa using hv
              rw [hdr] at this
              cases this
            | cons c l =>
              have : (cs.drop off)[0]? = some v := by rw [List.getElem?_drop]; simpa using hv
              rw [hdr] at this
              simp only [List.getElem?_cons_zero, Option.some.injEq] at this
              subst this
              rfl
          · rename_i cs m hg
            split at hv
            · rename_i hle
              simp only [Option.some.injEq] at hv
              subst hv
              refine key cs hg ?_
              have := Nat.le_of_ble_eq_true hle
              have hb : Nat.ble m (cs.drop off).length = true := by
                rw [Nat.ble_eq]
                simp
                omega
              simp only [loadV, Force.not, hb, cond_true]
            · cases hv
          · cases hv
      · cases hv
end
end Go.Ab
