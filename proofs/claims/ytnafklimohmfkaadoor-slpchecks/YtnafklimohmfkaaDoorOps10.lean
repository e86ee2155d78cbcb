/- Each operation of the abstract side is the machine's (10): append, copy, and the rest. -/
import Derived.Test.YtnafklimohmfkaaDoorOps9
namespace Go.Ab
set_option linter.unusedSimpArgs false

section
variable {P : Program} {ty : TypeId} {ρ : Operand → Value} {κ : Kap} {s : St} {w : World} (hs : Sim κ s w)

theorem exec_append {t t2 : TypeId} {x y : Operand} {z : Value} {w' : World} (h : (Builtin.append_ #[t, t2] ty #[ρ x, ρ y]).run P w = .ok z w') (dst : Option Tmp) (pos : String) (after : Array Edge) (guard : Option (Nat × Bool)) :
    (execOp ρ ⟨dst, .call { callee := .builtin .append, args := #[x, y], argTypes := #[t, t2] }, ty, pos, after, guard⟩).run P w = .ok (.value z) w' := by
  simp [execOp, resolve, invoke, builtin, h]

/-- A growing slice as the frozen cells show it. -/
theorem VR.ofTok {κ' : Kap} {D d i n sz cap b : Nat} {es : List AV} {xs : List Value} (hd : d < D) (hi : i < κ'.n d) (ht : κ'.tk d i es.length = some (⟨b, 0, none⟩, cap, sz)) (hn : es.length ≤ cap) (hsz : ∀ e, e ∈ es → e.cells.length = sz) (hr : ∀ e, e ∈ es → e.refless = true)
    (hx : VRs κ' D (es.flatMap AV.cells) xs) (hF : ∀ j, j < (es.flatMap AV.cells).length → κ'.F ⟨b, j, none⟩ = xs[j]?) (hl : n = es.length) : VR κ' D (.sl sz es (.buf (.g d i))) (.slice (some ⟨b, 0, none⟩) n cap) := by
  subst hl
  refine .sl sz es _ _ _ (fun j => xs.getD j undef) ⟨hd, hi, ht⟩ hn (fun _ => rfl) hsz hr (fun j hj => ?_) (fun j c hc => ?_)
  · rw [add_spot rfl]
    simp only [Nat.zero_add]
    rw [hF j hj]
    have : j < xs.length := by rw [hx.1]; exact hj
    simp [List.getD, this]
  · obtain ⟨y, hy, hv⟩ := hx.get hc
    have : xs.getD j undef = y := by simp [List.getD, hy]
    rw [this]
    exact hv

include hs
/-- A slice that grows in a new block, with a new token. -/
theorem append_new {t t2 el : TypeId} {sz bytes : Nat} {z : Value} (h : AppTy P t t2 el sz bytes z) {x y : Operand} {es new : List AV} {base : Option Addr} {cap0 : Nat} {Y : AV} (hX : ρ x = .slice base es.length cap0) (hY : VR κ (s.depth + 1) (Y.pub s.depth) (ρ y)) (hel : elemsOf s Y = some (sz, new))
    (hes : (∃ A c, ρ x = .slice A es.length c ∧ (A = none → es = []) ∧ ∀ a, A = some a → Reads κ (s.depth + 1) w a (es.flatMap AV.cells))) (hsz : ∀ e, e ∈ es → e.cells.length = sz) (hr : ∀ e, e ∈ es → e.refless = true) (hcap : cap0 < es.length + new.length) (hb : (es.length + new.length) * bytes ≤ 1099511627776) {bl l : Loc} {s' : St} (hby : s.newBy bl (.tok (es.length + new.length)) = some (l, s')) :
    Gives P (.call { callee := .builtin .append, args := #[x, y], argTypes := #[t, t2] }) ty ρ κ s w (.sl sz (es ++ new) (.buf l)) s' := by
  obtain ⟨dd, ii, hl, hnw⟩ := NewAt.by hby
  obtain ⟨hform, hnr, hnsz⟩ := elems_cells hs hY hel
  obtain ⟨hlen, xs, hc, hxs⟩ := run_elems (P := P) hform hnsz new.length (Nat.le_refl _) w.drew (fun _ => rfl)
  have hlen' := (run_elems (P := P) hform hnsz new.length (Nat.le_refl _) w (fun _ => rfl)).1
  obtain ⟨_, os, ho, hos⟩ := run_elems (P := P) (X := ρ x) (v := .dead) (.inr hes) hsz es.length (Nat.le_refl _) w.drew (fun _ => rfl)
  simp only [List.take_length] at hxs hos
  have hxl : xs.length = new.length * sz := by rw [hxs.1, flat_len new sz hnsz]
  have hol : os.length = es.length * sz := by rw [hos.1, flat_len es sz hsz]
  rw [hX] at ho
  obtain ⟨cap, C, q1, q2, q3, q4⟩ := run_append_grows (ty := ty) h (base := base) (sLen := es.length) (sCap := cap0) hlen' hc ho hxl hol hcap hb
  obtain ⟨κ', g1, g2, g3, g4, g5⟩ := hs.newTok (w' := w.drew.alloc (.cells C el)) C el (es.length + new.length) sz cap hnw q2 q1 rfl rfl rfl rfl
  refine ⟨_, κ', _, .inl (exec_append (by rw [hX]; exact q4)), g2, g1, ?_⟩
  simp only [AV.pub, Gr.pub, hl]
  have hall : ∀ e, e ∈ es ++ new → e.cells.length = sz := fun e he => by
    rcases List.mem_append.1 he with he | he
    · exact hsz e he
    · exact hnsz e he
  refine VR.ofTok (Nat.lt_succ_of_le hnw.le) g3 (by rw [List.length_append]; exact g4) (by rw [List.length_append]; exact q1) hall (fun e he => ?_) (xs := os ++ xs) (by rw [List.flatMap_append]; exact (hos.append hxs).mono g2.k) (fun j hj => ?_) (by rw [List.length_append])
  · rcases List.mem_append.1 he with he | he
    · exact hr e he
    · exact reflessL_iff.1 hnr e he
  · rw [flat_len _ sz hall, List.length_append] at hj
    rw [g5 j hj, q3 j hj]

theorem gives_append {E : Env} (hE : E.F = .not) {k : AV → St → Res} {r : Res} (hf : r ≠ .fail) {t t2 el : TypeId} {sz bytes : Nat} {z : Value} (h : AppTy P t t2 el sz bytes z) {x y : Operand} {X Y : AV}
    (hX : VR κ (s.depth + 1) (X.pub s.depth) (ρ x)) (hY : VR κ (s.depth + 1) (Y.pub s.depth) (ρ y)) {bl : Loc} (hr : appendV E s k sz bytes bl X Y = r) : ∃ v' s', k v' s' = r ∧ Gives P (.call { callee := .builtin .append, args := #[x, y], argTypes := #[t, t2] }) ty ρ κ s w v' s' := by
  unfold appendV at hr
  cases hel : elemsOf s Y with
  | none => rw [hel] at hr; exact absurd hr.symm hf
  | some p =>
    obtain ⟨zz, new⟩ := p
    rw [hel] at hr
    obtain ⟨hform, hnr, hnsz⟩ := elems_cells hs hY hel
    cases X <;> simp only [AV.pub] at hX <;> simp only [hE, Force.not] at hr <;> try exact absurd hr.symm hf
    case sl q es g =>
      obtain ⟨hb, hr1⟩ := bif_cases hr hf
      clear hr
      rw [Bool.and_eq_true, Bool.and_eq_true] at hb
      have hqz : zz = sz := Nat.eq_of_beq_eq_true hb.1.1
      have hqz2 : q = sz := Nat.eq_of_beq_eq_true hb.1.2
      have hble := Nat.le_of_ble_eq_true hb.2
      subst hqz
      subst hqz2
      cases new with
      | nil =>
        simp only at hr1
        refine ⟨_, _, hr1, ?_⟩
        obtain ⟨hlen, xs, hc, hxs⟩ := run_elems (P := P) hform hnsz 0 (Nat.le_refl _) w (fun _ => rfl)
        have hx0 : xs = [] := List.eq_nil_of_length_eq_zero (by rw [hxs.1]; rfl)
        subst hx0
        have : ∃ A cap, ρ x = .slice A es.length cap ∧ es.length ≤ cap := by
          rcases hX.sl_inv with ⟨rfl, _, e⟩ | ⟨a, cap, _, e, _, hn, _⟩
          · exact ⟨none, 0, e, Nat.le_refl _⟩
          · exact ⟨some a, cap, e, hn⟩
        obtain ⟨A, cap, e, hn⟩ := this
        have hrun := run_append_fits (ty := ty) h (base := A) (sLen := es.length) (sCap := cap) hlen hc (by simpa using hn) (w' := w) (by cases A with
          | none => rfl
          | some a => simp [storeCells])
        refine gives_same hs _ (exec_append (by rw [e]; exact hrun)) ?_
        simp only [AV.pub, List.length_nil, Nat.add_zero]
        rw [← e]
        exact hX
      | cons c0 cs0 =>
        simp only at hr1
        generalize hnew : c0 :: cs0 = new at *
        have hpos : 0 < new.length := by rw [← hnew]; simp
        cases g with
        | any => exact absurd hr1.symm hf
        | nil =>
          simp only at hr1
          cases hby : s.newBy bl (.tok (es.length + new.length)) with
          | none => rw [hby] at hr1; exact absurd hr1.symm hf
          | some p =>
          obtain ⟨l, s₁⟩ := p
          rw [hby] at hr1
          refine ⟨_, _, hr1, ?_⟩
          rcases hX.sl_inv with ⟨rfl, _, e⟩ | ⟨a, cap, _, e, hg, _⟩
          · exact append_new hs h e hY hel ⟨none, 0, e, fun _ => rfl, fun a ha => (by cases ha)⟩ (fun e he => by simp at he) (fun e he => by simp at he) (by simpa using hpos) hble hby
          · simp [Gr.pub, GrOK] at hg
        | exact =>
          simp only at hr1
          cases hby : s.newBy bl (.tok (es.length + new.length)) with
          | none => rw [hby] at hr1; exact absurd hr1.symm hf
          | some p =>
          obtain ⟨l, s₁⟩ := p
          rw [hby] at hr1
          refine ⟨_, _, hr1, ?_⟩
          rcases hX.sl_inv with ⟨_, hg, _⟩ | ⟨a, cap, vals, e, hg, hn, hsp, h4, h5, h6, h7⟩
          · simp [Gr.pub] at hg
          · simp only [Gr.pub, GrOK] at hg
            subst hg
            exact append_new hs h e hY hel ⟨some a, _, e, fun ha => (by cases ha), fun a' ha => (by cases ha; exact ⟨vals, fun j hj => (hs.froz _ _ (h6 j hj)).2, h7⟩)⟩ h4 h5 (by omega) hble hby
        | buf a =>
          simp only at hr1
          rcases hX.sl_inv with ⟨_, hg, _⟩ | ⟨A, cap, vals, e, hg, hn, hsp, h4, h5, h6, h7⟩
          · simp [Gr.pub] at hg
          · simp only [Gr.pub] at hg
            rw [← St.get_pub] at hr1
            cases ha : a.pub s.depth with
            | l i => cases a <;> simp [Loc.pub] at ha
            | g d i =>
              rw [ha] at hr1 hg
              obtain ⟨hd, hi, htk⟩ := hg
              cases hgt : s.get (.g d i) with
              | none => rw [hgt] at hr1; exact absurd hr1.symm hf
              | some o =>
                rw [hgt] at hr1
                cases o <;> try exact absurd hr1.symm hf
                rename_i n
                obtain ⟨hbn, hr2⟩ := bif_cases hr1 hf
                rw [Bool.and_eq_true] at hbn
                have hnn : n = es.length := Nat.eq_of_beq_eq_true hbn.1
                subst hnn
                rw [← St.set_pub, ha] at hr2
                cases hset : s.set (.g d i) (.tok (es.length + new.length)) with
                | none => rw [hset] at hr2; exact absurd hr2.symm hf
                | some s' =>
                  rw [hset] at hr2
                  refine ⟨_, _, hr2, ?_⟩
                  obtain ⟨b, cap', sz', t1, t2', ⟨C0, e0, fz0, t3, t4, t5⟩, t6, t7⟩ := hs.obj d i _ hgt
                  rw [htk] at t1
                  simp only [Option.some.injEq, Prod.mk.injEq] at t1
                  obtain ⟨rfl, rfl, rfl⟩ := t1
                  have hall : ∀ e, e ∈ es ++ new → e.cells.length = q := fun e he => by
                    rcases List.mem_append.1 he with he | he
                    · exact h4 e he
                    · exact hnsz e he
                  have hallr : ∀ e, e ∈ es ++ new → e.refless = true := fun e he => by
                    rcases List.mem_append.1 he with he | he
                    · exact h5 e he
                    · exact reflessL_iff.1 hnr e he
                  have hread : Reads κ (s.depth + 1) w ⟨b, 0, none⟩ (es.flatMap AV.cells) := ⟨vals, fun j hj => (hs.froz _ _ (h6 j hj)).2, h7⟩
                  have hfl := flat_len es q h4
                  by_cases hfit : es.length + new.length ≤ cap
                  · -- in place
                    obtain ⟨hlen, xs, hc, hxs⟩ := run_elems (P := P) hform hnsz new.length (Nat.le_refl _) w (fun _ => rfl)
                    simp only [List.take_length] at hxs
                    have hxl : xs.length = new.length * q := by rw [hxs.1, flat_len new q hnsz]
                    have hCle : (es.length + new.length) * q ≤ C0.size := by rw [t4]; exact Nat.mul_le_mul_right _ hfit
                    rw [Nat.add_mul] at hCle
                    have h1 := all_cell hbn.2 hxs
                    have hst := run_storeCells_cells (P := P) b (es.length * q) xs 0 w (fun j hj => by rw [cell_of_heap t3]; simp; omega) (fun j hj => by
                      have hu := t5 (es.length * q + 0 + j) (by omega)
                      simp only [World.frozen?, t3]
                      rw [Bool.and_eq_false_iff]
                      by_cases hlo : fz0.1 ≤ es.length * q + 0 + j
                      · right; simp only [decide_eq_false_iff_not]; exact fun h => hu ⟨hlo, h⟩
                      · left; simpa using hlo) h1
                    have hrun := run_append_fits (ty := ty) h (base := some ⟨b, 0, none⟩) (sLen := es.length) (sCap := cap) hlen hc hfit (w' := w.setCells b (es.length * q) xs) (by
                      have hadd : (⟨b, 0, none⟩ : Addr).add (es.length * q) = ⟨b, es.length * q, none⟩ := by rw [add_spot rfl]; simp
                      simp only [hadd]
                      simpa using hst)
                    obtain ⟨κ', g1, g2, g3, g4⟩ := hs.growTok hgt htk hset (by omega) hfit xs (by rw [hxl]; congr 1; omega)
                    refine ⟨_, κ', _, .inl (exec_append (by rw [e]; exact hrun)), g2, g1, ?_⟩
                    simp only [AV.pub, Gr.pub, ha]
                    -- the old cells' values
                    have hold : VRs κ (s.depth + 1) (es.flatMap AV.cells) ((List.range (es.length * q)).map vals) := by
                      refine ⟨by simp [hfl], fun j c x hc hx => ?_⟩
                      have hj : j < es.length * q := by rw [← hfl]; exact (List.getElem?_eq_some_iff.1 hc).1
                      have : (List.range (es.length * q))[j]? = some j := by simp [hj]
                      rw [List.getElem?_map, this] at hx
                      simp only [Option.map_some, Option.some.injEq] at hx
                      exact hx ▸ h7 j c hc
                    refine VR.ofTok hd (Nat.lt_of_lt_of_le hi (g2.k.n d hd)) (by rw [List.length_append]; exact g3) (by rw [List.length_append]; exact hfit) hall hallr (xs := (List.range (es.length * q)).map vals ++ xs) (by rw [List.flatMap_append]; exact (hold.append hxs).mono g2.k) (fun j hj => ?_) (by rw [List.length_append])
                    rw [flat_len _ q hall, List.length_append, Nat.add_mul] at hj
                    by_cases hj1 : j < es.length * q
                    · rw [List.getElem?_append_left (by simpa using hj1)]
                      have h8 := g2.k.F _ _ (h6 j (by rw [hfl]; exact hj1))
                      rw [add_spot rfl] at h8
                      simp only [Nat.zero_add] at h8
                      rw [h8]
                      simp [hj1]
                    · rw [List.getElem?_append_right (by simp; omega)]
                      obtain ⟨m, rfl⟩ : ∃ m, j = es.length * q + m := ⟨j - es.length * q, by omega⟩
                      have hm : m < xs.length := by omega
                      rw [g4 m xs[m] (List.getElem?_eq_getElem hm)]
                      simp [hm]
                  · -- a new block
                    obtain ⟨hlen, xs, hc, hxs⟩ := run_elems (P := P) hform hnsz new.length (Nat.le_refl _) w.drew (fun _ => rfl)
                    have hlen' := (run_elems (P := P) hform hnsz new.length (Nat.le_refl _) w (fun _ => rfl)).1
                    obtain ⟨_, os, ho, hos⟩ := run_elems (P := P) (X := ρ x) (v := .dead) (.inr ⟨some ⟨b, 0, none⟩, cap, e, fun ha => (by cases ha), fun a' ha => (by cases ha; exact hread)⟩) h4 es.length (Nat.le_refl _) w.drew (fun _ => rfl)
                    simp only [List.take_length] at hxs hos
                    have hxl : xs.length = new.length * q := by rw [hxs.1, flat_len new q hnsz]
                    have hol : os.length = es.length * q := by rw [hos.1, hfl]
                    rw [e] at ho
                    obtain ⟨cap2, C, q1, q2, q3, q4⟩ := run_append_grows (ty := ty) h (base := some ⟨b, 0, none⟩) (sLen := es.length) (sCap := cap) hlen' hc ho hxl hol (by omega) hble
                    obtain ⟨κ', g1, g2, g3, g4⟩ := hs.moveTok (w' := w.drew.alloc (.cells C el)) hgt hset (by omega) C el cap2 q q2 q1 rfl rfl rfl rfl
                    refine ⟨_, κ', _, .inl (exec_append (by rw [e]; exact q4)), g2, g1, ?_⟩
                    simp only [AV.pub, Gr.pub, ha]
                    refine VR.ofTok hd (Nat.lt_of_lt_of_le hi (g2.k.n d hd)) (by rw [List.length_append]; exact g3) (by rw [List.length_append]; exact q1) hall hallr (xs := os ++ xs) (by rw [List.flatMap_append]; exact (hos.append hxs).mono g2.k) (fun j hj => ?_) (by rw [List.length_append])
                    rw [flat_len _ q hall, List.length_append] at hj
                    rw [g4 j hj, q3 j hj]
    case msl a off len cap q =>
      rw [← St.get_pub] at hr
      cases ha : a.pub s.depth with
      | l i => cases a <;> simp [Loc.pub] at ha
      | g d i =>
        rw [ha] at hr hX
        obtain ⟨e, hd, hi, _⟩ := hX.msl_inv
        cases hg : s.get (.g d i) with
        | none => rw [hg] at hr; exact absurd hr.symm hf
        | some o =>
          rw [hg] at hr
          cases o <;> try exact absurd hr.symm hf
          rename_i cs
          obtain ⟨hb, hr1⟩ := bif_cases hr hf
          simp only [Bool.and_eq_true] at hb
          obtain ⟨⟨⟨⟨⟨hb1, hb2⟩, hb3⟩, hb4⟩, hb5⟩, hb6⟩ := hb
          have hqz : zz = sz := Nat.eq_of_beq_eq_true hb1
          have hqz2 : q = sz := Nat.eq_of_beq_eq_true hb2
          subst hqz
          subst hqz2
          have h3 := Nat.le_of_ble_eq_true hb3
          have h4 := Nat.le_of_ble_eq_true hb4
          rw [← St.set_pub, ha] at hr1
          have hfl := flat_len new q hnsz
          cases hset : s.set (.g d i) (.cells (splice cs (off + len * q) (new.flatMap AV.cells))) with
          | none => rw [hset] at hr1; exact absurd hr1.symm hf
          | some s' =>
            rw [hset] at hr1
            refine ⟨_, _, hr1, ?_⟩
            obtain ⟨hlen, xs, hc, hxs⟩ := run_elems (P := P) hform hnsz new.length (Nat.le_refl _) w (fun _ => rfl)
            simp only [List.take_length] at hxs
            have hmul : off + (len + new.length) * q = off + len * q + new.length * q := by rw [Nat.add_mul]; omega
            have hxl : xs.length = new.length * q := by rw [hxs.1, hfl]
            have hrl : AV.reflessL (new.flatMap AV.cells) = true := reflessL_iff.2 (fun c hc => by
              obtain ⟨e', he', hce⟩ := List.mem_flatMap.1 hc
              exact refless_cells (reflessL_iff.1 hnr e' he') hce)
            have hv2 := store_vals ha hxs (by simp [St.takes, hrl])
            obtain ⟨g1, g2⟩ := hs.store hg hset hv2 (by rw [hfl]; omega)
            have hst := run_storeObj (P := P) hs hg (off := off + len * q) (xs := xs) (by omega) (all_cell hb6 hxs)
            have hrun := run_append_fits (ty := ty) h (base := some ⟨κ.loc d i, off, none⟩) (sLen := len) (sCap := cap) hlen hc h3 (w' := w.setCells (κ.loc d i) (off + len * q) xs) (by
              have hadd : (⟨κ.loc d i, off, none⟩ : Addr).add (len * q) = ⟨κ.loc d i, off + len * q, none⟩ := by rw [add_spot rfl]
              simp only [hadd]
              exact hst)
            refine ⟨_, κ, _, .inl (exec_append (by rw [e]; exact hrun)), g2, g1, ?_⟩
            simp only [AV.pub, ha]
            exact .msl d i off _ cap q hd hi h3
end
end Go.Ab
