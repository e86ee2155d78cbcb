/- Each operation of the abstract side is the machine's (11): copy, what is frozen, bytes and strings, min and max. -/
import Derived.Test.YtnafklimohmfkaaDoorOps10
import Derived.Laws.IdiomStrings
namespace Go.Ab
set_option linter.unusedSimpArgs false

section
variable {P : Program} {ty : TypeId} {ρ : Operand → Value} {κ : Kap} {s : St} {w : World} (hs : Sim κ s w)
include hs

theorem gives_copy {E : Env} (hE : E.F = .not) {k : AV → St → Res} {r : Res} (hf : r ≠ .fail) {t t2 el : TypeId} {sz : Nat} (ht : P.underlying t = some (.slice el)) (hz : tySize P el = some sz) {x y : Operand} {X Y : AV} (hq : ∀ a off len cap q, X = .msl a off len cap q → q = sz)
    (hX : VR κ (s.depth + 1) (X.pub s.depth) (ρ x)) (hY : VR κ (s.depth + 1) (Y.pub s.depth) (ρ y)) (hr : copyV E s k X Y = r) : ∃ v' s', k v' s' = r ∧ Gives P (.call { callee := .builtin .copy, args := #[x, y], argTypes := #[t, t2] }) ty ρ κ s w v' s' := by
  cases X <;> simp only [AV.pub] at hX <;> simp only [copyV] at hr <;> try exact absurd hr.symm hf
  rename_i a off len cap q
  obtain rfl := hq _ _ _ _ _ rfl
  cases hel : elemsOf s Y with
  | none => rw [hel] at hr; exact absurd hr.symm hf
  | some p =>
    obtain ⟨zz, es⟩ := p
    rw [hel] at hr
    obtain ⟨hform, hnr, hnsz⟩ := elems_cells hs hY hel
    simp only at hr
    rw [← St.get_pub] at hr
    cases ha : a.pub s.depth with
    | l i => cases a <;> simp [Loc.pub] at ha
    | g d i =>
      rw [ha] at hr hX
      obtain ⟨e, hd, hi, _⟩ := hX.msl_inv
      cases hg : s.get (.g d i) with
      | none => rw [hg] at hr; exact absurd hr.symm hf
      | some o =>
        rw [hg] at hr
        cases o <;> try exact absurd hr.symm hf
        rename_i cs
        simp only [hE, Force.not] at hr
        obtain ⟨hb, hr1⟩ := bif_cases hr hf
        simp only [Bool.and_eq_true] at hb
        obtain ⟨⟨hb1, hb2⟩, hb3⟩ := hb
        have hqz : zz = q := Nat.eq_of_beq_eq_true hb1
        subst hqz
        have h2 := Nat.le_of_ble_eq_true hb2
        rw [← St.set_pub, ha] at hr1
        obtain ⟨hlen, xs, hc, hxs⟩ := run_elems (P := P) hform hnsz (min es.length len) (Nat.min_le_left _ _) w (fun _ => rfl)
        have hfl : ((es.take (min es.length len)).flatMap AV.cells).length = min es.length len * zz := by
          rw [flat_len _ zz (fun e he => hnsz e (List.mem_of_mem_take he)), List.length_take]
          congr 1
          omega
        have hmul : min es.length len * zz ≤ len * zz := Nat.mul_le_mul_right _ (Nat.min_le_right _ _)
        have hrl : AV.reflessL ((es.take (min es.length len)).flatMap AV.cells) = true := reflessL_iff.2 (fun c hc => by
          obtain ⟨e', he', hce⟩ := List.mem_flatMap.1 hc
          exact refless_cells (reflessL_iff.1 hnr e' (List.mem_of_mem_take he')) hce)
        cases hset : s.set (.g d i) (.cells (splice cs off ((es.take (min es.length len)).flatMap AV.cells))) with
        | none => rw [hset] at hr1; exact absurd hr1.symm hf
        | some s' =>
          rw [hset] at hr1
          refine ⟨_, _, hr1, ?_⟩
          have hxl : xs.length = min es.length len * zz := by rw [hxs.1, hfl]
          have hv2 := store_vals ha hxs (by simp [St.takes, hrl])
          obtain ⟨g1, g2⟩ := hs.store hg hset hv2 (by rw [hfl]; omega)
          have hst := run_storeObj (P := P) hs hg (off := off) (xs := xs) (by omega) (all_cell hb3 hxs)
          have hmin : Nat.min es.length len = min es.length len := rfl
          refine ⟨.int .i64 (min es.length len : Nat), κ, _, .inl (fun _ _ _ _ => ?_), g2, g1, .int _ _⟩
          simp only [execOp, resolve, invoke, builtin, List.map_toArray, List.map_cons, List.map_nil, Sem.run_bind, Sem.run_pure, Result.andThen_ok]
          have : (Builtin.copy_ #[t, t2] ty #[ρ x, ρ y]).run P w = .ok (goInt (min es.length len : Nat)) (w.setCells (κ.loc d i) off xs) := by
            simp [Builtin.copy_, run_underlying ht, e, hlen, run_sizeOfB hz, hc, hst]
          simp [this, goInt]

theorem gives_moveF {E : Env} (hE : E.F = .not) {k : AV → St → Res} {r : Res} (hf : r ≠ .fail) {o : Op} {x : Operand} (ho : ∀ dst pos after guard, (execOp ρ ⟨dst, o, ty, pos, after, guard⟩).run P w = .ok (.value (ρ x)) w) {v : AV}
    (hx : VR κ (s.depth + 1) (v.pub s.depth) (ρ x)) (hr : moveFV E s k v = r) : ∃ v' s', k v' s' = r ∧ Gives P o ty ρ κ s w v' s' := by
  cases v <;> simp only [moveFV] at hr <;> try exact absurd hr.symm hf
  rename_i a off len cap sz
  cases a with
  | g d i => exact absurd hr.symm hf
  | l i =>
    simp only [AV.pub, Loc.pub] at hx
    obtain ⟨e, hd, hi, hlc⟩ := hx.msl_inv
    have hget : s.own[i]? = s.get (.g s.depth i) := by simp [St.get]
    simp only at hr
    rw [hget] at hr
    cases hg : s.get (.g s.depth i) with
    | none => rw [hg] at hr; exact absurd hr.symm hf
    | some ob =>
      rw [hg] at hr
      cases ob <;> try exact absurd hr.symm hf
      rename_i cs
      simp only [hE, Force.not] at hr
      obtain ⟨hb, hr1⟩ := bif_cases hr hf
      simp only [Bool.and_eq_true, Bool.not_eq_true'] at hb
      have hz : sz ≠ 0 := fun h0 => by rw [h0] at hb; simp at hb
      have hle := Nat.le_of_ble_eq_true hb.1.2
      obtain ⟨C, el, fz, c1, c2, c3, c4⟩ := hs.freezeObj (s' := { s with own := s.own.set i .gone }) hg (by simp [St.set])
      refine ⟨_, _, hr1, ρ x, _, _, .inl ho, c4, c3, ?_⟩
      rw [e]
      simp only [AV.pub]
      have hgr : (if len = cap then Gr.exact else Gr.any).pub s.depth = (if len = cap then Gr.exact else Gr.any) := by split <;> rfl
      rw [hgr]
      obtain ⟨q1, q2⟩ := chunk_cells sz hz len (cs.drop off) (by simp; omega)
      have hl : C.size = cs.length := by simpa using c2.1
      have key : VR (κ.freeze (κ.loc s.depth i) 0 C) (s.depth + 1) (.sl sz (chunk sz len (cs.drop off)) (if len = cap then Gr.exact else Gr.any)) (.slice (some ⟨κ.loc s.depth i, off, none⟩) (chunk sz len (cs.drop off)).length cap) := by
        refine .sl sz _ _ _ _ (fun j => C.getD (off + j) undef) ?_ (by rw [chunk_length]; exact hlc) (fun _ => rfl) q2 (fun e he => reflessL_iff.1 hb.1.1 e he) (fun j hj => ?_) (fun j c hc => ?_)
        · by_cases h : len = cap
          · simp [h, GrOK, chunk_length]
          · simp [h, GrOK]
        · rw [q1] at hj
          simp at hj
          have hlt : off + j < C.size := by omega
          rw [add_spot rfl]
          show (κ.freeze (κ.loc s.depth i) 0 C).F ⟨κ.loc s.depth i, off + j, none⟩ = _
          rw [freeze_at (Nat.zero_le _) hlt]
          simp [Array.getD, hlt]
        · rw [q1, List.getElem?_take] at hc
          split at hc
          · rw [List.getElem?_drop] at hc
            obtain ⟨y, hy, hv⟩ := c2.get hc
            have : C.getD (off + j) undef = y := by
              have hy' : C[off + j]? = some y := by simpa using hy
              simp [Array.getD_eq_getD_getElem?, hy']
            rw [this]
            exact hv.mono c4.k
          · cases hc
      rw [chunk_length] at key
      exact key

theorem gives_strToBytes {E : Env} (hE : E.F = .not) {k : AV → St → Res} {r : Res} (hf : r ≠ .fail) {src dst el : TypeId} {x : Operand} {v : AV} (hsrc : P.underlying src = some .string) (hdst : P.underlying dst = some (.slice el)) (hel : P.underlying el = some (.int .u8))
    (hx : VR κ (s.depth + 1) (v.pub s.depth) (ρ x)) (hr : strToBytesV E s k v = r) : ∃ v', k v' s = r ∧ Gives P (.convert src dst x) ty ρ κ s w v' s := by
  cases v <;> simp only [AV.pub] at hx <;> simp only [strToBytesV, hE, Force.not] at hr <;> try exact absurd hr.symm hf
  rename_i bs
  refine ⟨_, hr, ?_⟩
  obtain ⟨a, ex, ha⟩ := hx.str_inv
  have hsz : a.size = bs.length := by have := congrArg List.length ha; rw [List.length_map, Array.length_toList] at this; exact this
  let cap := grownCap w a.size 0 el
  let C : Array Value := bytesRow a cap
  have hcap : a.size ≤ cap := by simp only [cap, grownCap, Question.cut]; omega
  have hCs : C.size = cap := by
    simp only [C, bytesRow, Array.size_append, Array.size_map, Array.size_replicate]
    have : a.data.size = a.size := rfl
    omega
  have e := run_bytes_of_string (P := P) w src dst el a hsrc hdst hel
  obtain ⟨g1, g2⟩ := hs.allocFrozen (w' := w.drew.alloc (.cells C el (C.size, C.size + 1))) C el (C.size, C.size + 1) rfl rfl rfl rfl
  refine ⟨.slice (some ⟨w.heap.size, 0, none⟩) a.size cap, _, _, .inl (fun _ _ _ _ => ?_), g2, g1, ?_⟩
  · simp only [execOp, ex]
    simp [e, C, cap]
  · simp only [AV.pub, Gr.pub]
    have e2 : (bs.map fun b => AV.int .u8 (b : Nat)).flatMap AV.cells = bs.map fun b => AV.int .u8 (b : Nat) := by
      clear hr hsz ha hx
      induction bs with
      | nil => rfl
      | cons x l ih => simp [List.flatMap_cons, ih, AV.cells]
    have hll : (bs.map fun b => AV.int .u8 (b : Nat)).length = a.size := by rw [List.length_map, hsz]
    rw [← hll]
    refine .sl 1 _ .any _ _ (fun j => C.getD j undef) trivial (by rw [hll]; exact hcap) (fun _ => rfl) (fun e he => ?_) (fun e he => ?_) (fun j hj => ?_) (fun j c hc => ?_)
    · obtain ⟨b, _, rfl⟩ := List.mem_map.1 he; rfl
    · obtain ⟨b, _, rfl⟩ := List.mem_map.1 he; rfl
    · rw [e2, hll] at hj
      rw [add_spot rfl]
      simp only [Nat.zero_add]
      rw [freeze_at (Nat.zero_le _) (by omega)]
      simp [Array.getD, show j < C.size by omega]
    · rw [e2, List.getElem?_map] at hc
      cases hb : bs[j]? with
      | none => rw [hb] at hc; cases hc
      | some b =>
        rw [hb] at hc
        simp only [Option.map_some, Option.some.injEq] at hc
        subst hc
        rw [← ha, List.getElem?_map] at hb
        cases hq : a.data.toList[j]? with
        | none => rw [hq] at hb; cases hb
        | some q =>
          rw [hq] at hb
          simp only [Option.map_some, Option.some.injEq] at hb
          have hj : j < a.data.size := by have := (List.getElem?_eq_some_iff.1 hq).1; simpa using this
          have : C[j]? = some (.int .u8 q.toNat) := by
            have hq' : a.data[j]? = some q := by simpa using hq
            show (a.data.map (fun b => Value.int .u8 b.toNat) ++ Array.replicate (cap - a.size) (.int .u8 0))[j]? = _
            rw [Array.getElem?_append_left (by rw [Array.size_map]; exact hj), Array.getElem?_map, hq']
            rfl
          simp only [Array.getD_eq_getD_getElem?, this, Option.getD_some, hb]
          exact .int _ _
end
end Go.Ab
