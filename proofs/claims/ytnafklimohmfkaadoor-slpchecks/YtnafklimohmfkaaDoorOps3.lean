/- Each operation of the abstract side is the machine's (3): fields, indexes, slices, strings. -/
import Derived.Test.YtnafklimohmfkaaDoorOps2
import Derived.Laws.Slices
namespace Go.Ab
set_option linter.unusedSimpArgs false

theorem asNat_inv {v : AV} {n : Nat} (h : asNat v = some n) : ∃ k, v = .int k n := by
  cases v <;> simp [asNat] at h
  rename_i k m
  exact ⟨k, by rw [← h.2, Int.toNat_of_nonneg h.1]⟩
theorem ble_cases {n m : Nat} {r : Res} {x : Res} (h : (bif Nat.ble n m then x else .fail) = r) (hf : r ≠ .fail) : n ≤ m ∧ x = r := by
  cases hb : Nat.ble n m with
  | true => rw [hb] at h; exact ⟨Nat.le_of_ble_eq_true hb, h⟩
  | false => rw [hb] at h; exact absurd h.symm hf
theorem bif_cases {b : Bool} {r : Res} {x : Res} (h : (bif b then x else .fail) = r) (hf : r ≠ .fail) : b = true ∧ x = r := by
  cases b with
  | true => exact ⟨rfl, h⟩
  | false => exact absurd h.symm hf

section
variable {P : Program} {ty : TypeId} {ρ : Operand → Value} {κ : Kap} {s : St} {w : World} (hs : Sim κ s w)
include hs

theorem gives_fieldAddr {E : Env} (hE : E.F = .not) {k : AV → St → Res} {r : Res} (hf : r ≠ .fail) {t : TypeId} {x : Operand} {v : AV} {i off : Nat} {fs : Array Field} {f : Field} (ht : P.underlying t = some (.struct fs)) (hfi : fs[i]? = some f) (ho : f.offset = off)
    {n : Nat} (hz : tySize P f.type = some n) (hn : n ≠ 0) (hx : VR κ (s.depth + 1) (v.pub s.depth) (ρ x)) (hr : fieldAddrV E s k off v = r) : ∃ v', k v' s = r ∧ Gives P (.fieldAddr t x i) ty ρ κ s w v' s := by
  have run : ∀ (a : Addr), ρ x = .pointer (some a) → ∀ dst pos after guard, (execOp ρ ⟨dst, .fieldAddr t x i, ty, pos, after, guard⟩).run P w = .ok (.value (.pointer (some (a.add off)))) w := by
    intro a ha dst pos after guard
    simp [execOp, Instr.fieldAt, run_underlying ht, hfi, ha, Instr.sureAddr, fieldPlace, run_sizeOfB hz, hn, ho]
  cases v <;> simp only [AV.pub] at hx <;> simp only [fieldAddrV, hE, Force.not] at hr <;> try exact absurd hr.symm hf
  case vptr cs =>
    obtain ⟨a, vals, e, h1, h2, h3⟩ := hx.vptr_inv
    refine ⟨_, hr, gives_same hs _ (run a e) ?_⟩
    refine .vptr _ _ (fun j => vals (off + j)) (add_spot' h1 _) (fun j hj => ?_) (fun j c hc => h3 _ c (by simpa using hc))
    rw [add_add]
    exact h2 _ (by simp at hj; omega)
  case ref a o =>
    refine ⟨_, hr, ?_⟩
    cases ha : a.pub s.depth with
    | l i => cases a <;> simp [Loc.pub] at ha
    | g d j =>
      rw [ha] at hx
      obtain ⟨e, hd, hj⟩ := hx.ref_inv
      refine gives_same hs _ (run _ e) ?_
      simp only [AV.pub, ha, add_spot (show (⟨κ.loc d j, o, none⟩ : Addr).spot = none from rfl)]
      exact .ref d j _ hd hj

omit hs in
theorem run_part {cs : List AV} {xs : List Value} {D off : Nat} (h : VRs κ D cs xs) {t : TypeId} {n : Option Nat} (hn : okLoad P t n = true) {E : Env} (hE : E.F = .not) {k : AV → St → Res} {r : Res} (hr : loadV E s k n (cs.drop off) = r) (hf : r ≠ .fail) :
    ∃ v x, k v s = r ∧ (part t xs.toArray off).run P w = .ok x w ∧ VR κ D v x := by
  have hd := h.drop off
  cases n with
  | none =>
    cases hc : cs.drop off with
    | nil => rw [hc] at hr; simp [loadV] at hr; exact absurd hr.symm hf
    | cons c cs' =>
      rw [hc] at hr
      simp only [loadV, hE, Force.not] at hr
      rw [hc] at hd
      obtain ⟨x, ys, hxs, hv, _⟩ := hd.uncons
      refine ⟨c, x, hr, ?_, hv⟩
      have hx0 : xs[off]? = some x := by
        have := congrArg (fun l : List Value => l[0]?) hxs
        simpa using this
      simp [part, run_isAggB (show tyAgg P t = some false by simpa [okLoad] using hn), hx0]
  | some n =>
    simp only [okLoad, Bool.and_eq_true, beq_iff_eq] at hn
    simp only [loadV, hE, Force.not] at hr
    obtain ⟨hl, hk⟩ := ble_cases hr hf
    refine ⟨_, .agg ((xs.drop off).take n).toArray, hk, ?_, .agg _ _ (hd.take n).1 (hd.take n).2⟩
    have : xs.toArray.extract off (off + n) = ((xs.drop off).take n).toArray := by
      rw [List.extract_toArray]
      congr 1
      simp [List.extract_eq_take_drop]
    simp [part, run_isAggB hn.1, run_sizeOfB hn.2, this]

theorem gives_field {E : Env} (hE : E.F = .not) {k : AV → St → Res} {r : Res} (hf : r ≠ .fail) {t : TypeId} {x : Operand} {v : AV} {i off : Nat} {n : Option Nat} {fs : Array Field} {f : Field} (ht : P.underlying t = some (.struct fs)) (hfi : fs[i]? = some f) (ho : f.offset = off)
    (hn : okLoad P f.type n = true) (hx : VR κ (s.depth + 1) (v.pub s.depth) (ρ x)) (hr : fieldV E s k off n v = r) : ∃ v', k v' s = r ∧ Gives P (.field t x i) ty ρ κ s w v' s := by
  cases v <;> simp only [AV.pub] at hx <;> simp only [fieldV] at hr <;> try exact absurd hr.symm hf
  obtain ⟨xs, e, h⟩ := hx.agg_inv
  obtain ⟨v', y, h1, h2, h3⟩ := run_part (w := w) h hn hE hr hf
  exact ⟨v', h1, gives_same hs y (fun _ _ _ _ => by simp [execOp, Instr.field, run_underlying ht, hfi, e, asAgg, ho, h2]) (by rw [pub_VR h3]; exact h3)⟩

theorem gives_idxAgg {E : Env} (hE : E.F = .not) {k : AV → St → Res} {r : Res} (hf : r ≠ .fail) {t e : TypeId} {x y : Operand} {v i : AV} {sz len : Nat} {n : Option Nat} (ht : P.underlying t = some (.array len e)) (hz : tySize P e = some sz)
    (hn : okLoad P e n = true) (hx : VR κ (s.depth + 1) (v.pub s.depth) (ρ x)) (hi : VR κ (s.depth + 1) (i.pub s.depth) (ρ y)) (hr : idxAggV E s k sz len n v i = r) : ∃ v', k v' s = r ∧ Gives P (.index t x y) ty ρ κ s w v' s := by
  cases v <;> simp only [AV.pub] at hx <;> simp only [idxAggV] at hr <;> try exact absurd hr.symm hf
  rename_i cs
  obtain ⟨xs, ex, h⟩ := hx.agg_inv
  cases hni : asNat i with
  | none => rw [hni] at hr; exact absurd hr.symm hf
  | some m =>
    rw [hni] at hr
    obtain ⟨kk, rfl⟩ := asNat_inv hni
    have ei := hi.int_inv
    obtain ⟨hb, hr⟩ := bif_cases hr hf
    have hm : m < len := by simpa [Nat.blt_eq] using hb
    obtain ⟨v', z, h1, h2, h3⟩ := run_part (w := w) h hn hE hr hf
    refine ⟨v', h1, gives_same hs z (fun _ _ _ _ => ?_) (by rw [pub_VR h3]; exact h3)⟩
    simp [execOp, Instr.index, run_underlying ht, ex, ei, asIntOf, hm, run_sizeOfB hz, h2]

theorem gives_idxStr {E : Env} (hE : E.F = .not) {k : AV → St → Res} {r : Res} (hf : r ≠ .fail) {t : TypeId} {x y : Operand} {v i : AV} (ht : P.underlying t = some .string)
    (hx : VR κ (s.depth + 1) (v.pub s.depth) (ρ x)) (hi : VR κ (s.depth + 1) (i.pub s.depth) (ρ y)) (hr : idxStrV E s k v i = r) : ∃ v', k v' s = r ∧ Gives P (.index t x y) ty ρ κ s w v' s := by
  cases v <;> simp only [AV.pub] at hx <;> simp only [idxStrV] at hr <;> try exact absurd hr.symm hf
  rename_i bs
  obtain ⟨a, ex, h⟩ := hx.str_inv
  cases hni : asNat i with
  | none => rw [hni] at hr; exact absurd hr.symm hf
  | some m =>
    rw [hni] at hr
    obtain ⟨kk, rfl⟩ := asNat_inv hni
    have ei := hi.int_inv
    cases hb : bs[m]? with
    | none => simp only [hb] at hr; exact absurd hr.symm hf
    | some b =>
      simp only [hb, hE, Force.not] at hr
      refine ⟨_, hr, gives_same hs (.int .u8 b) (fun _ _ _ _ => ?_) (.int _ _)⟩
      rw [← h, List.getElem?_map] at hb
      cases hc : a.data.toList[m]? with
      | none => simp [hc] at hb
      | some c =>
        simp only [hc, Option.map_some, Option.some.injEq] at hb
        subst hb
        have hlt := (List.getElem?_eq_some_iff.1 hc).1
        have hgm : a[m]? = some c := by
          have hsz : m < a.size := by rw [Array.length_toList] at hlt; exact hlt
          rw [getElem?_pos a m hsz]
          have h2 := (List.getElem?_eq_some_iff.1 hc).2
          rw [ByteArray.getElem_eq_getElem_data]
          simpa using h2
        have key : (Instr.index t (.string a) (.int kk m)).run P w = .ok (.int .u8 c.toNat) w := by
          simp only [Instr.index, Sem.run_bind, asIntOf, Sem.run_pure, Result.andThen_ok, run_underlying ht, Int.natCast_nonneg, ↓reduceIte, Int.toNat_natCast, hgm]
        simp only [execOp, ex, ei, Sem.run_bind, key, Result.andThen_ok, Sem.run_pure]

omit hs in
theorem sl_inv {D : Nat} {v : AV} {x : Value} (h : VR κ D v x) : (∀ sz es g, v = .sl sz es g → ∃ a c, x = .slice a es.length c) ∧ ∀ a off len cap sz, v = .msl a off len cap sz → ∃ p, x = .slice p len cap := by
  cases h <;> refine ⟨fun sz es g e => ?_, fun a off len cap sz e => ?_⟩ <;> cases e <;> first | exact ⟨_, _, rfl⟩ | exact ⟨_, rfl⟩

theorem gives_len {E : Env} (hE : E.F = .not) {k : AV → St → Res} {r : Res} (hf : r ≠ .fail) {b : Bool} {t : TypeId} {d : TypeDesc} {x : Operand} {v : AV} (ht : P.underlying t = some d) (hd : (b = true ∧ d = .string) ∨ (b = false ∧ ∃ e, d = .slice e))
    (hx : VR κ (s.depth + 1) (v.pub s.depth) (ρ x)) (hr : lenV E s k b v = r) : ∃ v', k v' s = r ∧ Gives P (.call { callee := .builtin .len, args := #[x], argTypes := #[t] }) ty ρ κ s w v' s := by
  have hsl := sl_inv hx
  cases v <;> simp only [AV.pub] at hx hsl <;> rcases hd with ⟨rfl, rfl⟩ | ⟨rfl, e, rfl⟩ <;> simp only [lenV, hE, Force.not] at hr <;> try exact absurd hr.symm hf
  case str.inl bs =>
    obtain ⟨a, ex, h⟩ := hx.str_inv
    refine ⟨_, hr, gives_same hs (.int .i64 bs.length) (fun _ _ _ _ => ?_) (.int _ _)⟩
    have : a.size = bs.length := by have := congrArg List.length h; rw [List.length_map, Array.length_toList] at this; exact this
    simp [execOp, resolve, invoke, builtin, Builtin.len_, run_underlying ht, ex, goInt, this]
  case sl.inr sz es g =>
    refine ⟨_, hr, gives_same hs (.int .i64 es.length) (fun _ _ _ _ => ?_) (.int _ _)⟩
    obtain ⟨a, c, ex⟩ := hsl.1 _ _ _ rfl
    simp [execOp, resolve, invoke, builtin, Builtin.len_, run_underlying ht, ex, goInt]
  case msl.inr a off len cap sz =>
    refine ⟨_, hr, gives_same hs (.int .i64 len) (fun _ _ _ _ => ?_) (.int _ _)⟩
    obtain ⟨p, ex⟩ := hsl.2 _ _ _ _ _ rfl
    simp [execOp, resolve, invoke, builtin, Builtin.len_, run_underlying ht, ex, goInt]
end
end Go.Ab
