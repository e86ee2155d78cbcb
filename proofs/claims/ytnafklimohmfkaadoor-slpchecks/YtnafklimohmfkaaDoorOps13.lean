/- Each operation of the abstract side is the machine's (13): maps whose keys are numbers, strings or bools. -/
import Derived.Test.YtnafklimohmfkaaDoorOps12
import Derived.MapKept
namespace Go.Ab
set_option linter.unusedSimpArgs false

/-- The type of a map's keys. -/
def okKD : KD → TypeDesc → Bool
  | .int k, .int k' => decide (k = k')
  | .str, .string => true
  | .bool, .bool => true
  | _, _ => false

theorem VR.pub_eq' {κ : Kap} {D : Nat} {v : AV} {x : Value} (h : VR κ D v x) {d : Nat} : v.pub d = v := by
  cases h <;> try rfl
  rename_i sz es g a cap vals hg _ _ _ _ _ _
  cases g <;> try rfl
  rename_i l
  cases l with
  | l i => exact absurd hg (by simp [GrOK])
  | g d i => rfl

theorem key_is {κ : Kap} {D : Nat} {kd : KD} {d : TypeDesc} {x : AV} {X : Value} (hd : okKD kd d = true) (hk : isKey kd x = true) (hx : VR κ D x X) : MapKept.IsKey d X := by
  cases kd <;> cases d <;> simp [okKD] at hd <;> cases x <;> simp [isKey] at hk
  · subst hd; subst hk; rw [hx.int_inv]; rfl
  · obtain ⟨s, rfl, _⟩ := hx.str_inv; trivial
  · rw [hx.bool_inv]; trivial

theorem keyEq_now {κ : Kap} {D : Nat} {kd : KD} {d : TypeDesc} {x y : AV} {X Y : Value} {b : Bool} (hd : okKD kd d = true) (hk : isKey kd x = true) (hx : VR κ D x X) (hy : VR κ D y Y) (h : keyEq x y = some b) : Instr.sameNow d X Y = some b ∧ (b = true → X = Y) := by
  unfold keyEq at h
  split at h
  · rename_i k a k' a'
    split at h
    · rename_i hkk
      subst hkk
      simp only [Option.some.injEq] at h
      rw [hx.int_inv, hy.int_inv]
      cases kd <;> simp [isKey] at hk
      cases d <;> simp [okKD] at hd
      refine ⟨by simp [Instr.sameNow, ← h], fun hb => ?_⟩
      subst hb
      simp at h
      rw [h]
    · cases h
  · rename_i a a'
    simp only [Option.some.injEq] at h
    obtain ⟨s, rfl, hs⟩ := hx.str_inv
    obtain ⟨s', rfl, hs'⟩ := hy.str_inv
    cases kd <;> simp [isKey] at hk
    cases d <;> simp [okKD] at hd
    have key : s = s' ↔ a = a' := by
      rw [← hs, ← hs']
      constructor
      · rintro rfl; rfl
      · intro e
        have := (List.map_inj_right (f := UInt8.toNat) (fun a b h => UInt8.toNat_inj.1 h)).1 e
        cases s; cases s'
        simp at this
        rw [this]
    refine ⟨?_, fun hb => ?_⟩
    · simp only [Instr.sameNow, Option.some.injEq]
      rw [← h, Bool.eq_iff_iff, MapKept.bytes_beq, key]
      simp
    · subst hb
      simp at h
      rw [key.2 h]
  · simp only [Option.some.injEq] at h
    rw [hx.bool_inv, hy.bool_inv]
    cases kd <;> simp [isKey] at hk
    cases d <;> simp [okKD] at hd
    refine ⟨by simp [Instr.sameNow, ← h], fun hb => ?_⟩
    subst hb
    simp at h
    rw [h]
  · cases h

theorem MapR.uncons {κ : Kap} {D : Nat} {p : AV × AV} {es : List (AV × AV)} {l : List MapEntry} (h : MapR κ D (p :: es) l) : ∃ e l', l = e :: l' ∧ VR κ D p.1 e.key ∧ VR κ D p.2 e.val ∧ MapR κ D es l' := by
  cases l with
  | nil => exact absurd h.1 (by simp)
  | cons e l' =>
    refine ⟨e, l', rfl, (h.2 0 p e rfl rfl).1, (h.2 0 p e rfl rfl).2, by have := h.1; simpa using this, fun j q f hq hf => h.2 (j + 1) q f (by simpa using hq) (by simpa using hf)⟩

theorem findKey_sound {κ : Kap} {D : Nat} {kd : KD} {d : TypeDesc} {x : AV} {X : Value} (hd : okKD kd d = true) (hk : isKey kd x = true) (hx : VR κ D x X) : ∀ (es : List (AV × AV)) (l : List MapEntry) (i : Nat) (r : Option AV), MapR κ D es l → findKey x es = some r →
    (r = none ∧ Instr.findNow d X l i = some none) ∨ ∃ v j e, r = some v ∧ Instr.findNow d X l i = some (some (i + j, e.val)) ∧ l[j]? = some e ∧ e.key = X ∧ VR κ D v e.val
  | [], l, i, r, hm, h => by
    have : l = [] := List.eq_nil_of_length_eq_zero hm.1
    subst this
    simp only [findKey, Option.some.injEq] at h
    exact .inl ⟨h.symm, rfl⟩
  | (y, v) :: es, l, i, r, hm, h => by
    obtain ⟨e, l', rfl, hy, hv, hm'⟩ := hm.uncons
    simp only [findKey] at h
    cases hb : keyEq x y with
    | none => rw [hb] at h; cases h
    | some b =>
      rw [hb] at h
      obtain ⟨h1, h2⟩ := keyEq_now hd hk hx hy hb
      cases b with
      | true =>
        simp only [Option.some.injEq] at h
        exact .inr ⟨v, 0, e, h.symm, by simp [Instr.findNow, h1], rfl, (h2 rfl).symm, hv⟩
      | false =>
        simp only at h
        rcases findKey_sound hd hk hx es l' (i + 1) r hm' h with ⟨e1, e2⟩ | ⟨v', j, e', e1, e2, e3, e4, e5⟩
        · exact .inl ⟨e1, by simp [Instr.findNow, h1, e2]⟩
        · refine .inr ⟨v', j + 1, e', e1, ?_, by simpa using e3, e4, e5⟩
          simp [Instr.findNow, h1, e2]
          omega

theorem putKey_sound {κ : Kap} {D : Nat} {kd : KD} {d : TypeDesc} {x v : AV} {X V : Value} (hd : okKD kd d = true) (hk : isKey kd x = true) (hx : VR κ D x X) (hv : VR κ D v V) : ∀ (es : List (AV × AV)) (l : List MapEntry) (i : Nat) (es' : List (AV × AV)), MapR κ D es l → putKey x v es = some es' →
    (Instr.findNow d X l i = some none ∧ ∀ clock, MapR κ D es' (l ++ [{ key := X, val := V, born := clock }])) ∨ ∃ j e, Instr.findNow d X l i = some (some (i + j, e.val)) ∧ l[j]? = some e ∧ e.key = X ∧ MapR κ D es' (l.set j { e with key := X, val := V })
  | [], l, i, es', hm, h => by
    have : l = [] := List.eq_nil_of_length_eq_zero hm.1
    subst this
    simp only [putKey, Option.some.injEq] at h
    subst h
    refine .inl ⟨rfl, fun clock => ⟨rfl, fun j p e hp he => ?_⟩⟩
    cases j with
    | zero => simp at hp he; subst hp; subst he; exact ⟨hx, hv⟩
    | succ j => simp at hp
  | (y, u) :: es, l, i, es', hm, h => by
    obtain ⟨e, l', rfl, hy, hu, hm'⟩ := hm.uncons
    simp only [putKey] at h
    cases hb : keyEq x y with
    | none => rw [hb] at h; cases h
    | some b =>
      rw [hb] at h
      obtain ⟨h1, h2⟩ := keyEq_now hd hk hx hy hb
      cases b with
      | true =>
        simp only [Option.some.injEq] at h
        subst h
        refine .inr ⟨0, e, by simp [Instr.findNow, h1], rfl, (h2 rfl).symm, by have := hm.1; simpa using this, fun j p q hp hq => ?_⟩
        cases j with
        | zero =>
          simp at hp hq
          subst hp
          subst hq
          exact ⟨by rw [h2 rfl]; exact hy, hv⟩
        | succ j => exact hm'.2 j p q (by simpa using hp) (by simpa using hq)
      | false =>
        simp only at h
        cases hp : putKey x v es with
        | none => rw [hp] at h; cases h
        | some es₁ =>
          rw [hp] at h
          simp only [Option.map_some, Option.some.injEq] at h
          subst h
          have cons : ∀ {l₁}, MapR κ D es₁ l₁ → MapR κ D ((y, u) :: es₁) (e :: l₁) := fun hm₁ => by
            refine ⟨by simp [hm₁.1], fun j p q hp hq => ?_⟩
            cases j with
            | zero => simp at hp hq; subst hp; subst hq; exact ⟨hy, hu⟩
            | succ j => exact hm₁.2 j p q (by simpa using hp) (by simpa using hq)
          rcases putKey_sound hd hk hx hv es l' (i + 1) es₁ hm' hp with ⟨e1, e2⟩ | ⟨j, e', e1, e2, e3, e4⟩
          · exact .inl ⟨by simp [Instr.findNow, h1, e1], fun clock => by simpa using cons (e2 clock)⟩
          · refine .inr ⟨j + 1, e', ?_, by simpa using e2, e3, by simpa using cons e4⟩
            simp [Instr.findNow, h1, e1]
            omega

section
variable {P : Program} {ty : TypeId} {ρ : Operand → Value} {κ : Kap} {s : St} {w : World} (hs : Sim κ s w)
include hs

theorem gives_makeMap {E : Env} (hE : E.F = .not) {k : AV → St → Res} {r : Res} (hf : r ≠ .fail) {t : TypeId} {b : Option Loc} (hr : makeMapV E s k b = r) : ∃ v' s', k v' s' = r ∧ Gives P (.makeMap t none) ty ρ κ s w v' s' := by
  unfold makeMapV at hr
  cases b with
  | none => exact absurd hr.symm hf
  | some b =>
    simp only at hr
    cases hby : s.newBy b (.map []) with
    | none => rw [hby] at hr; exact absurd hr.symm hf
    | some p =>
      obtain ⟨l, s'⟩ := p
      rw [hby] at hr
      simp only [hE, Force.not] at hr
      obtain ⟨dd, ii, hl, hnw⟩ := NewAt.by hby
      obtain ⟨κ', g1, g2, g3, g4⟩ := hs.newMap (w' := w.alloc (.map #[] 0)) hnw rfl rfl rfl rfl
      refine ⟨_, _, hr, .map (some w.heap.size), κ', w.alloc (.map #[] 0), .inl (fun dst pos after guard => ?_), g2, g1, ?_⟩
      · simp [execOp, Instr.makeMap, Result.andThen]
      · simp only [AV.pub, hl]
        rw [← g3]
        exact .map dd ii (Nat.lt_succ_of_le hnw.le) g4

theorem gives_mapPut {E : Env} (hE : E.F = .not) {k : AV → St → Res} {r : Res} (hf : r ≠ .fail) {o : Op} {t kt et : TypeId} {d : TypeDesc} {kd : KD} (ht : P.underlying t = some (.map kt et)) (hkt : P.underlying kt = some d) (hd : okKD kd d = true) {m x v : AV} {M X V : Value}
    (hm : VR κ (s.depth + 1) (m.pub s.depth) M) (hx : VR κ (s.depth + 1) x X) (hv : VR κ (s.depth + 1) v V) (ho : ∀ dst pos after guard, execOp ρ ⟨dst, o, ty, pos, after, guard⟩ = (do Instr.mapUpdate t M X V; pure .skip : Sem Next)) (hr : mapPutV E s k kd m x v = r) :
    ∃ v' s', k v' s' = r ∧ Gives P o ty ρ κ s w v' s' := by
  cases m <;> simp only [mapPutV] at hr <;> try exact absurd hr.symm hf
  rename_i a
  simp only [AV.pub] at hm
  rw [← St.get_pub] at hr
  cases ha : a.pub s.depth with
  | l i => cases a <;> simp [Loc.pub] at ha
  | g e i =>
    rw [ha] at hr hm
    have hM : M = .map (some (κ.loc e i)) ∧ e < s.depth + 1 ∧ i < κ.n e := by cases hm; exact ⟨rfl, by assumption, by assumption⟩
    obtain ⟨rfl, he, hi⟩ := hM
    cases hg : s.get (.g e i) with
    | none => rw [hg] at hr; exact absurd hr.symm hf
    | some ob =>
      rw [hg] at hr
      cases ob <;> try exact absurd hr.symm hf
      rename_i es
      simp only [hE, Force.not] at hr
      obtain ⟨hb, hr1⟩ := bif_cases hr hf
      simp only [Bool.and_eq_true] at hb
      cases hp : putKey x v es with
      | none => rw [hp] at hr1; exact absurd hr1.symm hf
      | some es' =>
        rw [hp] at hr1
        simp only at hr1
        rw [← St.set_pub, ha] at hr1
        cases hset : s.set (.g e i) (.map es') with
        | none => rw [hset] at hr1; exact absurd hr1.symm hf
        | some s' =>
          rw [hset] at hr1
          obtain ⟨ents, clock, h1, h2⟩ := hs.obj e i _ hg
          have hxv := store_vals ha (VRs.cons hx (VRs.cons hv (VRs.nil _ _))) hb.2
          have hx' := hxv.2 0 x X rfl rfl
          have hv' := hxv.2 1 v V rfl rfl
          have hkey := key_is hd hb.1.1 hx'
          rcases putKey_sound hd hb.1.1 hx' hv' es ents.toList 0 es' h2 hp with ⟨e1, e2⟩ | ⟨j, en, e1, e2, e3, e4⟩
          · obtain ⟨g1, g2⟩ := hs.setMap (ents := ents.push { key := X, val := V, born := clock }) (clock := clock + 1) hg hset (by simpa using e2 clock)
            refine ⟨_, _, hr1, undef, κ, _, .inr ⟨fun dst pos after guard => ?_, rfl⟩, g2, g1, .dead _⟩
            rw [ho]
            simp [Instr.mapUpdate, run_underlying ht, MapKept.run_getObj_map h1, MapKept.run_checkKey hkt hkey, MapKept.run_findKey hkt e1, MapKept.run_setObj_map _ h1, Result.andThen]
          · have hj : ents[j]? = some en := by simpa using e2
            obtain ⟨g1, g2⟩ := hs.setMap (ents := ents.modify j fun e => { e with key := X, val := V }) (clock := clock) hg hset (by
              have : (ents.modify j fun e => { e with key := X, val := V }).toList = ents.toList.set j { en with key := X, val := V } := by
                apply List.ext_getElem?
                intro q
                simp only [Array.getElem?_toList, Array.getElem?_modify, List.getElem?_set]
                by_cases hq : j = q
                · subst hq
                  have hjl : j < ents.toList.length := (List.getElem?_eq_some_iff.1 e2).1
                  rw [if_pos rfl, if_pos rfl, if_pos hjl, hj]
                  rfl
                · simp [hq]
              rw [this]
              exact e4)
            refine ⟨_, _, hr1, undef, κ, _, .inr ⟨fun dst pos after guard => ?_, rfl⟩, g2, g1, .dead _⟩
            rw [ho]
            simp only [Nat.zero_add] at e1
            have e5 : (ents[j]?.map MapEntry.key).getD X = X := by rw [hj]; exact e3
            simp [Instr.mapUpdate, run_underlying ht, MapKept.run_getObj_map h1, MapKept.run_checkKey hkt hkey, MapKept.run_findKey hkt e1, MapKept.run_setObj_map _ h1, e5, MapKept.run_keyThatStays hkey, Result.andThen]

theorem gives_lookup {E : Env} (hE : E.F = .not) {k : AV → St → Res} {r : Res} (hf : r ≠ .fail) {t kt et : TypeId} {x y : Operand} {d : TypeDesc} {kd : KD} {ok : Bool} {zero : AV} {i : TypeInfo} {Z : Value} (ht : P.underlying t = some (.map kt et)) (hkt : P.underlying kt = some d) (hd : okKD kd d = true)
    (hi : P.info? et = some i) (hiz : i.zero = some Z) (hz : okVal zero Z = true) {m u : AV}
    (hm : VR κ (s.depth + 1) (m.pub s.depth) (ρ x)) (hx : VR κ (s.depth + 1) u (ρ y)) (hr : lookupV E s k kd zero ok m u = r) : ∃ v', k v' s = r ∧ Gives P (.lookup t x y ok) ty ρ κ s w v' s := by
  unfold lookupV at hr
  obtain ⟨hb, hr1⟩ := bif_cases hr hf
  clear hr
  have hkey := key_is hd hb hx
  have hzr : (zeroValue et).run P w = .ok Z w := by simp [zeroValue, typeInfo, hi, hiz]
  cases hes : entriesOf s m with
  | none => rw [hes] at hr1; exact absurd hr1.symm hf
  | some es =>
    rw [hes] at hr1
    simp only [hE, Force.not] at hr1
    -- the machine's entries
    have hent : ∃ l : Array MapEntry, MapR κ (s.depth + 1) es l.toList ∧ ((ρ x = .map none ∧ l = #[]) ∨ ∃ q clock, ρ x = .map (some q) ∧ w.heap[q]? = some (.map l clock)) := by
      cases m <;> simp only [entriesOf] at hes <;> try cases hes
      · rename_i a
        simp only [AV.pub] at hm
        rw [← St.get_pub] at hes
        cases ha : a.pub s.depth with
        | l j => cases a <;> simp [Loc.pub] at ha
        | g e j =>
          rw [ha] at hes hm
          have hM : ρ x = .map (some (κ.loc e j)) ∧ e < s.depth + 1 := by
            generalize ρ x = q at hm
            cases hm; exact ⟨rfl, by assumption⟩
          cases hg : s.get (.g e j) with
          | none => rw [hg] at hes; cases hes
          | some ob =>
            rw [hg] at hes
            cases ob <;> simp only [Option.some.injEq] at hes <;> try cases hes
            obtain ⟨ents, clock, h1, h2⟩ := hs.obj e j _ hg
            refine ⟨ents, ⟨h2.1, fun q p en hp hen => ⟨((h2.2 q p en hp hen).1).up (by have := hM.2; omega), ((h2.2 q p en hp hen).2).up (by have := hM.2; omega)⟩⟩, ?_⟩
            exact .inr ⟨_, clock, hM.1, h1⟩
      · have hM : ρ x = .map none := by
          simp only [AV.pub] at hm
          generalize ρ x = q at hm
          cases hm; rfl
        exact ⟨#[], ⟨rfl, fun q p en hp => by simp at hp⟩, .inl ⟨hM, rfl⟩⟩
    obtain ⟨l, hl, hrun⟩ := hent
    have hex : ∀ (a : Option (Nat × Value)) (V : Value), Instr.findNow d (ρ y) l.toList 0 = some a → V = (match a with | some (_, v) => v | none => Z) → ∀ dst pos after guard, (execOp ρ ⟨dst, .lookup t x y ok, ty, pos, after, guard⟩).run P w = .ok (.value (if ok then .tuple #[V, .bool a.isSome] else V)) w := by
      intro a V ha hV dst pos after guard
      have e1 : (Instr.lookup t (ρ x) (ρ y) ok).run P w = .ok (if ok then .tuple #[V, .bool a.isSome] else V) w := by
        rcases hrun with ⟨e, rfl⟩ | ⟨q, clock, e, h1⟩
        · cases a with
          | none => simp [Instr.lookup, run_underlying ht, e, MapKept.run_checkKey hkt hkey, MapKept.run_findKey hkt ha, hzr, hV, Result.andThen]
          | some p => simp [Instr.findNow] at ha
        · cases a with
          | none => simp [Instr.lookup, run_underlying ht, e, MapKept.run_getObj_map h1, MapKept.run_checkKey hkt hkey, MapKept.run_findKey hkt ha, hzr, hV, Result.andThen]
          | some p => simp [Instr.lookup, run_underlying ht, e, MapKept.run_getObj_map h1, MapKept.run_checkKey hkt hkey, MapKept.run_findKey hkt ha, hV, Result.andThen]
      simp only [execOp, Sem.run_bind, e1, Result.andThen]
      rfl
    cases hfk : findKey u es with
    | none => rw [hfk] at hr1; exact absurd hr1.symm hf
    | some fo =>
      rw [hfk] at hr1
      obtain ⟨hz1, hz2⟩ := okVal_sound zero Z hz
      rcases findKey_sound hd hb hx es l.toList 0 fo hl hfk with ⟨rfl, e2⟩ | ⟨v, j, e, rfl, e2, e3, e4, e5⟩
      · simp only at hr1
        refine ⟨_, hr1, gives_same hs _ (hex none Z e2 rfl) ?_⟩
        cases ok with
        | true =>
          have : VRs κ (s.depth + 1) [zero, .bool false] [Z, .bool false] := .cons (hz1 _ _) (.cons (.bool _) (.nil _ _))
          exact .tup _ _ this.1 this.2
        | false =>
          simp only [cond_false, Bool.false_eq_true, ↓reduceIte]
          rw [(hz1 κ (s.depth + 1)).pub_eq']
          exact hz1 _ _
      · simp only at hr1
        refine ⟨_, hr1, gives_same hs _ (hex _ e.val e2 rfl) ?_⟩
        cases ok with
        | true =>
          have : VRs κ (s.depth + 1) [v, .bool true] [e.val, .bool true] := .cons e5 (.cons (.bool _) (.nil _ _))
          exact .tup _ _ this.1 this.2
        | false =>
          simp only [cond_false, Bool.false_eq_true, ↓reduceIte]
          rw [e5.pub_eq']
          exact e5
end
end Go.Ab
