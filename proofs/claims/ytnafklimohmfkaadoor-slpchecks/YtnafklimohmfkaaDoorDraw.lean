/- A region whose order is drawn. -/
import Derived.Test.YtnafklimohmfkaaDoorReg
namespace Go.Ab
set_option linter.unusedSimpArgs false
set_option linter.unusedSectionVars false

def edges (o : Oper) : List Nat := (o.after.toList.filter (Region.binds .any)).map (·.on)
def maskOf (acc : List Nat) : List Nat → Nat
  | [] => 0
  | e :: es => maskOf acc es ||| ((1 <<< e) ||| acc.getD e 0)
def masks : List Nat → List Oper → List Nat
  | acc, [] => acc
  | acc, o :: os => masks (acc ++ [maskOf acc (edges o)]) os
def okRow (bits : Nat) (b : AOper) : Nat → List AOper → Bool
  | _, [] => true
  | m, a :: as => (bits.testBit m || indep a b) && okRow bits b (m + 1) as
def okRows : List AOper → List Nat → List AOper → Bool
  | _, _, [] => true
  | pre, m :: ms, b :: bs => okRow m b 0 pre && okRows (pre ++ [b]) ms bs
  | _, [], _ :: _ => false
def okLow : Nat → List Oper → Bool
  | _, [] => true
  | i, o :: os => (edges o).all (fun e => Nat.blt e i) && okLow (i + 1) os
def okOpers (T : TT) (nt : Nat) (ops : Array Oper) : List AOper → List Oper → Bool
  | [], [] => true
  | a :: as, o :: os => okOper T nt ops a o && okOpers T nt ops as os
  | _, _ => false
/-- May the region's operations come up in any order that its edges allow? -/
def okDraw (T : TT) (nt : Nat) (ops : Array Oper) (aos : List AOper) : Bool := okOpers T nt ops aos ops.toList && okLow 0 ops.toList && okRows [] (masks [] ops.toList) aos

theorem okOpers_sound {T : TT} {nt : Nat} {ops : Array Oper} : ∀ {as : List AOper} {os : List Oper}, okOpers T nt ops as os = true → as.length = os.length ∧ ∀ (i : Nat) (a : AOper) (o : Oper), as[i]? = some a → os[i]? = some o → okOper T nt ops a o = true
  | [], [], _ => ⟨rfl, fun i a o h => by simp at h⟩
  | [], _ :: _, h => by simp [okOpers] at h
  | _ :: _, [], h => by simp [okOpers] at h
  | a :: as, o :: os, h => by
    simp only [okOpers, Bool.and_eq_true] at h
    obtain ⟨h1, h2⟩ := okOpers_sound h.2
    refine ⟨by simp [h1], fun i a' o' ha ho => ?_⟩
    cases i with
    | zero => simp at ha ho; subst ha; subst ho; exact h.1
    | succ i => exact h2 i a' o' (by simpa using ha) (by simpa using ho)
theorem okLow_sound : ∀ {i : Nat} {os : List Oper}, okLow i os = true → ∀ (j : Nat) (o : Oper), os[j]? = some o → ∀ e, e ∈ edges o → e < i + j
  | i, [], _, j, o, h => by simp at h
  | i, o' :: os, h, j, o, ho => by
    simp only [okLow, Bool.and_eq_true, List.all_eq_true] at h
    cases j with
    | zero =>
      simp at ho
      subst ho
      intro e he
      have := h.1 e he
      rw [Nat.blt_eq] at this
      omega
    | succ j =>
      intro e he
      have := okLow_sound h.2 j o (by simpa using ho) e he
      omega
theorem okRow_sound {bits : Nat} {b : AOper} : ∀ {m : Nat} {as : List AOper}, okRow bits b m as = true → ∀ (j : Nat) (a : AOper), as[j]? = some a → bits.testBit (m + j) = true ∨ indep a b = true
  | m, [], _, j, a, h => by simp at h
  | m, a' :: as, h, j, a, ha => by
    simp only [okRow, Bool.and_eq_true, Bool.or_eq_true] at h
    cases j with
    | zero => simp at ha; subst ha; exact h.1
    | succ j =>
      have := okRow_sound h.2 j a (by simpa using ha)
      rw [show m + (j + 1) = m + 1 + j by omega]
      exact this
theorem okRows_sound : ∀ {pre : List AOper} {ms : List Nat} {rest : List AOper}, okRows pre ms rest = true → ∀ (i m : Nat) (a b : AOper), pre.length ≤ i → m < i → (pre ++ rest)[m]? = some a → (pre ++ rest)[i]? = some b → (ms.getD (i - pre.length) 0).testBit m = true ∨ indep a b = true
  | pre, ms, [], _, i, m, a, b, hi, hm, ha, hb => by
    rw [List.append_nil] at hb
    have := (List.getElem?_eq_some_iff.1 hb).1
    omega
  | pre, [], b' :: bs, h, i, m, a, b, hi, hm, ha, hb => by simp [okRows] at h
  | pre, m' :: ms, b' :: bs, h, i, m, a, b, hi, hm, ha, hb => by
    simp only [okRows, Bool.and_eq_true] at h
    by_cases he : i = pre.length
    · subst he
      rw [Nat.sub_self]
      have hb' : b = b' := by simpa using hb.symm
      subst hb'
      have := okRow_sound h.1 m a (by rw [List.getElem?_append_left hm] at ha; exact ha)
      simpa using this
    · have := okRows_sound (pre := pre ++ [b']) h.2 i m a b (by simp; omega) hm (by simpa using ha) (by simpa using hb)
      have e : i - pre.length = (i - (pre ++ [b']).length) + 1 := by simp; omega
      rw [e]
      simpa using this

theorem maskOf_testBit (acc : List Nat) (m : Nat) : ∀ (es : List Nat), (maskOf acc es).testBit m = true → ∃ e, e ∈ es ∧ (m = e ∨ (acc.getD e 0).testBit m = true)
  | [], h => by simp [maskOf] at h
  | e :: es, h => by
    simp only [maskOf, Nat.testBit_or, Bool.or_eq_true] at h
    rcases h with h | h | h
    · obtain ⟨e', h1, h2⟩ := maskOf_testBit acc m es h
      exact ⟨e', List.mem_cons_of_mem _ h1, h2⟩
    · refine ⟨e, List.mem_cons_self, .inl ?_⟩
      rw [Nat.one_shiftLeft, Nat.testBit_two_pow] at h
      simpa using (of_decide_eq_true h).symm
    · exact ⟨e, List.mem_cons_self, .inr h⟩
/-- Whom an operation waits for, at last. -/
def Masks (M : List Nat) (os : List Oper) : Prop := M.length = os.length ∧ ∀ i m, (M.getD i 0).testBit m = true → ∃ o e, os[i]? = some o ∧ e ∈ edges o ∧ (m = e ∨ (M.getD e 0).testBit m = true)
theorem masks_sound : ∀ (os : List Oper) (acc : List Nat) (pre : List Oper), Masks acc pre → Masks (masks acc os) (pre ++ os)
  | [], acc, pre, h => by simpa [masks] using h
  | o :: os, acc, pre, h => by
    have := masks_sound os (acc ++ [maskOf acc (edges o)]) (pre ++ [o]) ?_
    · simpa [masks] using this
    refine ⟨by simp [h.1], fun i m hm => ?_⟩
    have up : ∀ e, (acc.getD e 0).testBit m = true → ((acc ++ [maskOf acc (edges o)]).getD e 0).testBit m = true := fun e he => by
      have hlt : e < acc.length := by
        rcases Nat.lt_or_ge e acc.length with q | q
        · exact q
        · rw [List.getD_eq_getElem?_getD, List.getElem?_eq_none q] at he; simp at he
      rw [List.getD_eq_getElem?_getD, List.getElem?_append_left hlt, ← List.getD_eq_getElem?_getD]
      exact he
    rcases Nat.lt_trichotomy i acc.length with q | q | q
    · rw [List.getD_eq_getElem?_getD, List.getElem?_append_left q, ← List.getD_eq_getElem?_getD] at hm
      obtain ⟨o', e, h1, h2, h3⟩ := h.2 i m hm
      refine ⟨o', e, ?_, h2, h3.imp id (up e)⟩
      rw [List.getElem?_append_left (by rw [← h.1]; exact q)]
      exact h1
    · subst q
      have hm' : (maskOf acc (edges o)).testBit m = true := by simpa using hm
      obtain ⟨e, h1, h2⟩ := maskOf_testBit acc m _ hm'
      refine ⟨o, e, ?_, h1, h2.imp id (up e)⟩
      rw [h.1]
      simp
    · rw [List.getD_eq_getElem?_getD, List.getElem?_eq_none (by simp; omega)] at hm
      simp at hm

section
variable {P : Program} {nt : Nat} {T : TT} (hT : T.OK P) {E : Env} (hE : E.F = .not) (hC : CallOK P E)
include hT hE hC

theorem any_sound {ops : Array Oper} {aos : List AOper} (hok : okDraw T nt ops aos = true) {Q : Exit → Act → World → Prop} {g' : Nat → AV} {s' : St} : ∀ (fuel : Nat) (L : List Nat) (listed : Array Bool) {κ : Kap} {s : St} {w : World} {g : Nat → AV} {a : Act},
    L.length = fuel → L.Pairwise (· < ·) → listed.size = ops.size → (∀ i, i ∈ L ↔ i < ops.size ∧ listed.getD i true = false) →
    (∀ i m, listed.getD i false = true → ((masks [] ops.toList).getD i 0).testBit m = true → listed.getD m false = true) → Run κ s w g a nt E.glob → runF E (L.map (aos.getD · default)) g s = some (g', s') →
    (∀ κ' w' a', Ext κ s w κ' s' w' → Run κ' s' w' g' a' nt E.glob → Q .normal a' w') → wpAny P .any ops Q fuel listed a w := by
  simp only [okDraw, Bool.and_eq_true] at hok
  obtain ⟨⟨ho1, ho2⟩, ho3⟩ := hok
  obtain ⟨hlen, hops⟩ := okOpers_sound ho1
  have hlow := okLow_sound ho2
  have hrows := okRows_sound ho3
  have hM := masks_sound ops.toList [] [] ⟨rfl, fun i m h => by simp at h⟩
  have hedge : ∀ (o : Oper) (e : Edge), e ∈ o.after → Region.binds .any e = true → e.on ∈ edges o := fun o e he hb => List.mem_map.2 ⟨e, List.mem_filter.2 ⟨by simpa using he, hb⟩, rfl⟩
  have hedge' : ∀ (o : Oper) (n : Nat), n ∈ edges o → ∃ e, e ∈ o.after ∧ Region.binds .any e = true ∧ e.on = n := fun o n hn => by
    obtain ⟨e, he, hen⟩ := List.mem_map.1 hn
    obtain ⟨h1, h2⟩ := List.mem_filter.1 he
    exact ⟨e, by simpa using h1, h2, hen⟩
  have ff : ∀ (listed : Array Bool) (i : Nat), i < listed.size → listed.getD i true = listed.getD i false := fun listed i h => by simp [Array.getD_eq_getD_getElem?, h]
  intro fuel
  induction fuel with
  | zero =>
    intro L listed κ s w g a hL hp hsz hmem hcl h hr hQ
    have : L = [] := List.eq_nil_of_length_eq_zero hL
    subst this
    refine ⟨?_, ?_⟩
    · cases hrd : Region.ready .any ops listed with
      | nil => rfl
      | cons i l =>
        have hi : i ∈ Region.ready .any ops listed := by rw [hrd]; exact List.mem_cons_self
        obtain ⟨h1, o, h2, _⟩ := mem_ready.1 hi
        have := (hmem i).2 ⟨(Array.getElem?_eq_some_iff.1 h2).1, h1⟩
        cases this
    · simp only [List.map_nil, runF, Option.some.injEq, Prod.mk.injEq] at hr
      obtain ⟨rfl, rfl⟩ := hr
      exact hQ κ w a (.refl _ _ _) h
  | succ fuel ih =>
    intro L listed κ s w g a hL hp hsz hmem hcl h hr hQ
    refine ⟨fun hrd => ?_, fun i hi => ?_⟩
    · cases L with
      | nil => simp at hL
      | cons i0 l =>
        obtain ⟨h1, h2⟩ := (hmem i0).1 List.mem_cons_self
        have : i0 ∈ Region.ready .any ops listed := by
          refine mem_ready.2 ⟨h2, ops[i0], Array.getElem?_eq_getElem h1, fun e he hb => ?_⟩
          have hlt := hlow i0 ops[i0] (by simp [h1]) e.on (hedge _ _ he hb)
          rw [Nat.zero_add] at hlt
          rw [← ff listed e.on (by omega)]
          cases hq : listed.getD e.on true with
          | true => rfl
          | false =>
            have := (hmem e.on).2 ⟨by omega, hq⟩
            rcases List.mem_cons.1 this with q | q
            · omega
            · have := List.rel_of_pairwise_cons hp q
              omega
        rw [hrd] at this
        cases this
    · obtain ⟨h1, o, h2, h3⟩ := mem_ready.1 hi
      have hin : i < ops.size := (Array.getElem?_eq_some_iff.1 h2).1
      have hiL := (hmem i).2 ⟨hin, h1⟩
      have hdone : ∀ m, ((masks [] ops.toList).getD i 0).testBit m = true → listed.getD m false = true := fun m hm => by
        obtain ⟨o', e, q1, q2, q3⟩ := hM.2 i m hm
        have : o' = o := by
          have q1' : ops[i]? = some o' := by simpa using q1
          rw [h2] at q1'
          exact (Option.some.inj q1').symm
        subst this
        obtain ⟨e', r1, r2, r3⟩ := hedge' _ _ q2
        have hl := h3 e' r1 r2
        rw [r3] at hl
        rcases q3 with q3 | q3
        · rw [q3]; exact hl
        · exact hcl e m hl q3
      obtain ⟨pre, post, rfl⟩ := List.append_of_mem hiL
      have hpp := List.pairwise_append.1 hp
      have hpre : ∀ m, m ∈ pre → m < i := fun m hm => hpp.2.2 m hm i List.mem_cons_self
      have hpost : ∀ m, m ∈ post → i < m := fun m hm => List.rel_of_pairwise_cons hpp.2.1 hm
      have hget : ∀ m, m < ops.size → aos[m]? = some (aos.getD m default) := fun m hm => by
        have : m < aos.length := by rw [hlen]; simpa using hm
        simp [List.getD_eq_getElem?_getD, this]
      have hind : ∀ x, x ∈ pre.map (aos.getD · default) → indep x (aos.getD i default) = true := fun x hx => by
        obtain ⟨m, hm, rfl⟩ := List.mem_map.1 hx
        have hmi := hpre m hm
        obtain ⟨hmn, hmu⟩ := (hmem m).1 (List.mem_append_left _ hm)
        rcases hrows i m _ _ (Nat.zero_le _) hmi (hget m hmn) (hget i hin) with q | q
        · have := hdone m (by simpa using q)
          rw [ff listed m (by omega), this] at hmu
          cases hmu
        · exact q
      rw [List.map_append, List.map_cons] at hr
      have hr' := run_first hE _ hind hr
      rw [← List.map_append] at hr'
      simp only [runF] at hr'
      cases he : eff E (aos.getD i default) g s with
      | none => rw [he] at hr'; cases hr'
      | some p =>
        obtain ⟨v, s1⟩ := p
        rw [he] at hr'
        simp only [Option.bind_some] at hr'
        refine oper_sound hT hE hC h h2 (hops i _ o (hget i hin) (by simpa using h2)) he fun κ' w' a' he' h' => ?_
        refine ih (pre ++ post) _ (by simp at hL ⊢; omega) (List.pairwise_append.2 ⟨hpp.1, hpp.2.1.of_cons, fun x hx y hy => hpp.2.2 x hx y (List.mem_cons_of_mem _ hy)⟩) (by simp [hsz]) (fun j => ?_) (fun j m hj hm => ?_) h' hr'
          (fun κ'' w'' a'' he'' h'' => hQ κ'' w'' a'' (he'.trans he'') h'')
        · by_cases hji : j = i
          · subst hji
            constructor
            · intro hm
              rcases List.mem_append.1 hm with q | q
              · exact absurd (hpre j q) (Nat.lt_irrefl _)
              · exact absurd (hpost j q) (Nat.lt_irrefl _)
            · intro hm
              have := hm.2
              simp [Array.getD_eq_getD_getElem?, hsz, hin] at this
          · rw [getD_set_ne true (Ne.symm hji), ← hmem j]
            simp only [List.mem_append, List.mem_cons]
            constructor
            · rintro (q | q)
              · exact .inl q
              · exact .inr (.inr q)
            · rintro (q | q | q)
              · exact .inl q
              · exact absurd q hji
              · exact .inr q
        · by_cases hji : j = i
          · subst hji
            exact getD_set_true (hdone m hm)
          · rw [getD_set_ne false (Ne.symm hji)] at hj
            exact getD_set_true (hcl j m hj hm)

/-- A region in the order of the text. -/
theorem region_sound {κ : Kap} {s : St} {w : World} {fr : Tr} {a : Act} {ops : Array Oper} {aos : List AOper} (hok : okOpers T nt ops aos ops.toList = true) (h : Run κ s w fr.get a nt E.glob) {fin : Tr → St → Res} {pan : AV → Tr → St → Res} {r : Res} (hf : r ≠ .fail) (hr : runOps E aos fr s fin pan = r) {Q : Exit → Act → World → Prop}
    (hQ : ∀ κ' s' w' fr' a', Ext κ s w κ' s' w' → Run κ' s' w' fr'.get a' nt E.glob → fin fr' s' = r → Q .normal a' w') (id : Nat) : (Code.region id ops false).wp P Q a w := by
  obtain ⟨fr', s', h1, h2⟩ := runOps_runF hE hC.nopanic hf aos hr
  obtain ⟨hlen, hops⟩ := okOpers_sound hok
  refine wp_region (ops_sound hT hE hC (List.range ops.size) aos (by rw [hlen]; simp) (fun j i ao hj ha => ?_) h h1 (fun κ' w' a' he h' => hQ κ' s' w' fr' a' he h' h2))
  obtain ⟨hj1, hj2⟩ := List.getElem?_eq_some_iff.1 hj
  rw [List.getElem_range] at hj2
  subst hj2
  have hlt : j < ops.size := by simpa using hj1
  exact ⟨ops[j], Array.getElem?_eq_getElem hlt, hops j ao _ ha (by simp [hlt])⟩

theorem Run.drawn {κ : Kap} {s : St} {w : World} {g : Nat → AV} {a : Act} (h : Run κ s w g a nt E.glob) : Run κ s { w with drawn := w.drawn + 1 } g a nt E.glob ∧ Ext κ s w κ s { w with drawn := w.drawn + 1 } :=
  ⟨⟨h.sim.world (.refl _ _) rfl rfl (fun a v e => h.sim.froz a v e) (fun _ _ => ⟨rfl, fun _ => rfl⟩), h.fr, h.defers, h.size, h.glob⟩,
   ⟨.refl _ _, rfl, Nat.le_refl _, rfl, rfl, rfl, fun _ _ _ => rfl, fun _ _ h => h, fun _ h => .inl h⟩⟩

/-- A region whose order is drawn. -/
theorem draw_sound {κ : Kap} {s : St} {w : World} {fr : Tr} {a : Act} {ops : Array Oper} {aos : List AOper} (hm : P.follows .mixedOrders = true) (hok : okDraw T nt ops aos = true) (h : Run κ s w fr.get a nt E.glob) {fin : Tr → St → Res} {pan : AV → Tr → St → Res} {r : Res} (hf : r ≠ .fail) (hr : runOps E aos fr s fin pan = r) {Q : Exit → Act → World → Prop}
    (hQ : ∀ κ' s' w' fr' a', Ext κ s w κ' s' w' → Run κ' s' w' fr'.get a' nt E.glob → fin fr' s' = r → Q .normal a' w') (id : Nat) : (Code.region id ops true).wp P Q a w := by
  obtain ⟨fr', s', h1, h2⟩ := runOps_runF hE hC.nopanic hf aos hr
  have hlen := (okOpers_sound (by simp only [okDraw, Bool.and_eq_true] at hok; exact hok.1.1)).1
  obtain ⟨hd, hext⟩ := h.drawn hT hE hC
  refine wp_region_any hm (any_sound hT hE hC hok ops.size (List.range ops.size) _ (by simp) List.pairwise_lt_range (by simp) (fun i => ?_) (fun i m hi => ?_) hd ?_ (fun κ' w' a' he h' => hQ κ' s' w' fr' a' (hext.trans he) h' h2))
  · rw [List.mem_range]
    constructor
    · intro hi; exact ⟨hi, by simp [Array.getD_eq_getD_getElem?, hi]⟩
    · exact fun hi => hi.1
  · by_cases hlt : i < ops.size
    · simp [Array.getD_eq_getD_getElem?, hlt] at hi
    · simp [Array.getD_eq_getD_getElem?, hlt] at hi
  · have : (List.range ops.size).map (aos.getD · default) = aos := by
      apply List.ext_getElem
      · rw [hlen]; simp
      · intro i q1 q2
        simp [List.getD_eq_getElem?_getD, q2]
    rw [this]
    exact h1
end
end Go.Ab
