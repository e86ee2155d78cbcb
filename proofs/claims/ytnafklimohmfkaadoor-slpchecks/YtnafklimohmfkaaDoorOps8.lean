/- Each operation of the abstract side is the machine's (8): what is made, stored, frozen, copied, appended. -/
import Derived.Test.YtnafklimohmfkaaDoorOps7
namespace Go.Ab
set_option linter.unusedSimpArgs false

theorem madeCells_zero (z : List AV) (v : Array Value) (hz : ∀ κ D, VRs κ D z v.toList) (n : Nat) : ∀ κ D, VRs κ D (List.replicate n z).flatten (madeCells v (n * z.length)).toList := by
  intro κ D
  have hl : v.size = z.length := by simpa using (hz κ D).1
  refine ⟨by simp [madeCells], fun j c x hc hx => ?_⟩
  simp only [madeCells, Array.toList_map, List.getElem?_map] at hx
  by_cases h0 : z.length = 0
  · have : z = [] := List.eq_nil_of_length_eq_zero h0
    subst this
    simp at hc
  · have hj : j < n * z.length := by
      have := (List.getElem?_eq_some_iff.1 hc).1
      simpa using this
    have hr : (Array.range (n * z.length)).toList[j]? = some j := by simp [hj]
    rw [hr] at hx
    simp only [Option.map_some, Option.some.injEq] at hx
    have hm : j % z.length < z.length := Nat.mod_lt _ (by omega)
    have hc' : z[j % z.length]? = some c := by
      have : ∀ (n j : Nat), j < n * z.length → (List.replicate n z).flatten[j]? = z[j % z.length]? := by
        intro n
        induction n with
        | zero => intro j hj; simp at hj
        | succ n ih =>
          intro j hj
          rw [List.replicate_succ, List.flatten_cons]
          by_cases h1 : j < z.length
          · rw [List.getElem?_append_left h1, Nat.mod_eq_of_lt h1]
          · rw [List.getElem?_append_right (by omega), ih _ (by rw [Nat.succ_mul] at hj; omega), ← Nat.mod_eq_sub_mod (by omega)]
      rw [← this n j hj]
      exact hc
    have hx' : v.toList[j % z.length]? = some x := by
      have hlt : j % v.size < v.size := by rw [hl]; exact hm
      rw [← hx]
      simp only [hl] at hlt ⊢
      simp [hl, hm]
    exact (hz κ D).2 _ c x hc' hx'

section
variable {P : Program} {ty : TypeId} {ρ : Operand → Value} {κ : Kap} {s : St} {w : World} (hs : Sim κ s w)
include hs

theorem gives_makeSlice {E : Env} (hE : E.F = .not) {k : AV → St → Res} {r : Res} (hf : r ≠ .fail) {t el : TypeId} {z : List AV} {bytes : Nat} {l c : AV} {x y : Operand} (ht : P.underlying t = some (.slice el)) (hz : okZero P el z = true) (hsz : tySize P el = some z.length) (hby : (P.info? el).map (·.bytes) = some bytes) (hb0 : 0 < bytes)
    (hx : VR κ (s.depth + 1) (l.pub s.depth) (ρ x)) (hy : VR κ (s.depth + 1) (c.pub s.depth) (ρ y)) (hr : makeV E s k z bytes l c = r) : ∃ v' s', k v' s' = r ∧ Gives P (.makeSlice t x y) ty ρ κ s w v' s' := by
  unfold makeV at hr
  cases hl : asNat l with
  | none => rw [hl] at hr; exact absurd hr.symm hf
  | some m =>
    cases hc : asNat c with
    | none => rw [hl, hc] at hr; exact absurd hr.symm hf
    | some n =>
      rw [hl, hc] at hr
      simp only [hE, Force.not] at hr
      obtain ⟨hb, hr1⟩ := bif_cases hr hf
      rw [Bool.and_eq_true] at hb
      have h1 := Nat.le_of_ble_eq_true hb.1
      have h2 := Nat.le_of_ble_eq_true hb.2
      obtain ⟨kl, rfl⟩ := asNat_inv hl
      obtain ⟨kc, rfl⟩ := asNat_inv hc
      obtain ⟨v, e, hv, _, i, hi, hiz⟩ := run_zero hz w
      have hisz : i.size = z.length := by simpa [tySize, hi] using hsz
      have hib : i.bytes = bytes := by simpa [hi] using hby
      have hn64 : (n : Int) ≤ 9223372036854775807 := by
        have : n * 1 ≤ n * bytes := Nat.mul_le_mul_left _ hb0
        omega
      have hmul : (i.bytes : Int) * (n : Int) ≤ 281474976710656 := by
        have : (i.bytes : Int) * (n : Int) = ((n * bytes : Nat) : Int) := by rw [hib, Nat.mul_comm]; simp
        omega
      have run := run_make w t el i v ht hi hiz kl kc m n (by omega) (by omega) hmul hn64
      simp only [Int.toNat_natCast, hisz] at run
      obtain ⟨κ', g1, g2, g3, g4⟩ := hs.allocCells (List.replicate n z).flatten (madeCells v.cells (n * z.length)) el (madeCells_zero z v.cells hv n _ _) (w' := w.alloc (.cells (madeCells v.cells (n * z.length)) el)) rfl rfl rfl rfl
      refine ⟨_, _, hr1, .slice (some ⟨w.heap.size, 0, none⟩) m n, κ', _, .inl (fun _ _ _ _ => ?_), g2, g1, ?_⟩
      · simp [execOp, hx.int_inv, hy.int_inv, run]
      · simp only [AV.pub, Loc.pub]
        rw [← g3]
        exact .msl _ _ _ _ _ _ (Nat.lt_succ_self _) g4 h1

omit hs in
theorem all_cell {vs : List AV} (h : vs.all AV.isCell = true) {D : Nat} {xs : List Value} (hv : VRs κ D vs xs) : ∀ x ∈ xs, x.oneCell' = true := by
  intro x hx
  obtain ⟨j, hj⟩ := List.mem_iff_getElem?.1 hx
  have hlt := (List.getElem?_eq_some_iff.1 hj).1
  have hlt2 : j < vs.length := by rw [← hv.1]; exact hlt
  have hc : vs[j]? = some vs[j] := List.getElem?_eq_getElem hlt2
  exact (hv.2 j _ x hc hj).oneCell (List.all_eq_true.1 h _ (List.mem_of_getElem? hc))

/-- The machine's store into an object's cells. -/
theorem run_storeObj {d i off : Nat} {cs : List AV} {xs : List Value} (hg : s.get (.g d i) = some (.cells cs)) (ho : off + xs.length ≤ cs.length) (h1 : ∀ x ∈ xs, x.oneCell' = true) :
    (storeCells ⟨κ.loc d i, off, none⟩ xs).run P w = .ok () (w.setCells (κ.loc d i) off xs) := by
  obtain ⟨⟨C, e, fz, c1, c2, c3⟩, c4⟩ := hs.obj d i _ hg
  have hCl : C.size = cs.length := by simpa using c3.1
  have := run_storeCells_cells (P := P) (κ.loc d i) off xs 0 w (fun j hj => by rw [cell_of_heap c1]; simp; omega) (fun j hj => ?_) h1
  · simpa using this
  · have hu := c2 (off + 0 + j) (by omega)
    simp only [World.frozen?, c1]
    rw [Bool.and_eq_false_iff]
    by_cases hlo : fz.1 ≤ off + 0 + j
    · right; simp only [decide_eq_false_iff_not]; exact fun h => hu ⟨hlo, h⟩
    · left; simpa using hlo

omit hs in
/-- Values that may go into an object: the running frame's own takes all, an elder one what holds no reference. -/
theorem store_vals {a : Loc} {d i : Nat} (ha : a.pub s.depth = .g d i) {vs : List AV} {xs : List Value} (hv : VRs κ (s.depth + 1) vs xs) (h : s.takes a vs = true) : VRs κ (d + 1) vs xs := by
  unfold St.takes at h
  rcases Bool.or_eq_true _ _ ▸ h with h | h2
  rcases Bool.or_eq_true _ _ ▸ h with h1 | h1
  · have : d = s.depth := by
      cases a with
      | l j => simp [Loc.pub] at ha; exact ha.1.symm
      | g d' j => simp [Loc.pub] at ha; simp [St.isOwn] at h1; omega
    subst this
    exact hv
  · exact hv.refless h1 _ (fun _ _ h => h)
  · cases a with
    | l j => cases h2
    | g e j =>
      simp only [Loc.pub, Loc.g.injEq] at ha
      obtain ⟨rfl, rfl⟩ := ha
      exact ⟨hv.1, fun j c x hc hx => (hv.2 j c x hc hx).lower (lowL_get h2 hc)⟩

theorem gives_store {E : Env} (hE : E.F = .not) {k : AV → St → Res} {r : Res} (hf : r ≠ .fail) {t : TypeId} {n : Nat} {x y : Operand} {v u : AV} (hn : tySize P t = some n) (hx : VR κ (s.depth + 1) (v.pub s.depth) (ρ x)) (hy : VR κ (s.depth + 1) u (ρ y))
    (hr : storeOp E s k n v u = r) : ∃ v' s', k v' s' = r ∧ Gives P (.store t x y) ty ρ κ s w v' s' := by
  cases v <;> simp only [AV.pub] at hx <;> simp only [storeOp] at hr <;> try exact absurd hr.symm hf
  rename_i a off
  obtain ⟨hb, hr1⟩ := bif_cases hr hf
  rw [Bool.and_eq_true] at hb
  have hlen := Nat.eq_of_beq_eq_true hb.2
  have hcells := hy.cells hb.1
  unfold storeV at hr1
  rw [← St.get_pub] at hr1
  cases ha : a.pub s.depth with
  | l i => cases a <;> simp [Loc.pub] at ha
  | g d i =>
    rw [ha] at hr1 hx
    obtain ⟨e, hd, hi⟩ := hx.ref_inv
    cases hg : s.get (.g d i) with
    | none => rw [hg] at hr1; exact absurd hr1.symm hf
    | some o =>
      rw [hg] at hr1
      cases o <;> try exact absurd hr1.symm hf
      rename_i cs
      obtain ⟨hb2, hr2⟩ := bif_cases hr1 hf
      rw [Bool.and_eq_true, Bool.and_eq_true] at hb2
      have h1 := Nat.le_of_ble_eq_true hb2.1.1
      simp only [hE, Force.not] at hr2
      rw [← St.set_pub, ha] at hr2
      cases hset : s.set (.g d i) (.cells (splice cs off u.cells)) with
      | none => rw [hset] at hr2; exact absurd hr2.symm hf
      | some s' =>
        rw [hset] at hr2
        have hxl : (ρ y).cells.toList.length = u.cells.length := hcells.1
        have hv2 := store_vals ha hcells hb2.1.2
        obtain ⟨g1, g2⟩ := hs.store hg hset hv2 h1
        have hrun := run_storeObj (P := P) hs hg (off := off) (xs := (ρ y).cells.toList) (by omega) (all_cell hb2.2 hcells)
        have hsz : (ρ y).cells.size = n := by rw [← Array.length_toList, hxl, hlen]
        refine ⟨_, _, hr2, undef, κ, _, .inr ⟨fun _ _ _ _ => ?_, rfl⟩, g2, g1, .dead _⟩
        simp [execOp, Instr.storeAt, e, Instr.sureAddr, storeVar, run_sizeOfB hn, hsz, hrun]

/-- Elements of a slice: where they lie. -/
theorem elems_cells {v : AV} {X : Value} {sz : Nat} {es : List AV} (hv : VR κ (s.depth + 1) (v.pub s.depth) X) (h : elemsOf s v = some (sz, es)) :
    ((∃ bs a, v = .str bs ∧ X = .string a ∧ a.data.toList.map UInt8.toNat = bs ∧ sz = 1 ∧ es = bs.map fun b => .int .u8 (b : Nat)) ∨
     (∃ A c, X = .slice A es.length c ∧ (A = none → es = []) ∧ ∀ a, A = some a → Reads κ (s.depth + 1) w a (es.flatMap AV.cells))) ∧
    AV.reflessL es = true ∧ ∀ e, e ∈ es → e.cells.length = sz := by
  cases v <;> simp only [elemsOf] at h <;> first | (simp at h; done) | skip
  case str bs =>
    simp only [Option.some.injEq, Prod.mk.injEq] at h
    obtain ⟨rfl, rfl⟩ := h
    obtain ⟨a, rfl, ha⟩ := hv.str_inv
    refine ⟨.inl ⟨bs, a, rfl, rfl, ha, rfl, rfl⟩, reflessL_iff.2 (fun c hc => ?_), fun e he => ?_⟩
    · obtain ⟨b, _, rfl⟩ := List.mem_map.1 hc; rfl
    · obtain ⟨b, _, rfl⟩ := List.mem_map.1 he; rfl
  case sl z l g =>
    simp only [Option.some.injEq, Prod.mk.injEq] at h
    obtain ⟨rfl, rfl⟩ := h
    rcases hv.sl_inv with ⟨rfl, _, rfl⟩ | ⟨a, cap, vals, rfl, _, _, _, h4, h5, h6, h7⟩
    · exact ⟨.inr ⟨none, 0, rfl, fun _ => rfl, fun a ha => (by cases ha)⟩, rfl, fun e he => (by simp at he)⟩
    · refine ⟨.inr ⟨some a, cap, rfl, fun ha => (by cases ha), fun a' ha => ?_⟩, reflessL_iff.2 h5, h4⟩
      cases ha
      exact ⟨vals, fun j hj => (hs.froz _ _ (h6 j hj)).2, h7⟩
  case msl a off len cap z =>
    rw [← St.get_pub] at h
    cases ha : a.pub s.depth with
    | l i => cases a <;> simp [Loc.pub] at ha
    | g d i =>
      rw [ha] at h
      simp only [AV.pub, ha] at hv
      obtain ⟨rfl, hd, hi, _⟩ := hv.msl_inv
      cases hg : s.get (.g d i) with
      | none => rw [hg] at h; cases h
      | some o =>
        rw [hg] at h
        cases o <;> first | (simp at h; done) | skip
        rename_i cs
        simp only at h
        split at h
        · rename_i hc
          simp only [Option.some.injEq, Prod.mk.injEq] at h
          obtain ⟨rfl, rfl⟩ := h
          simp only [Bool.and_eq_true, Bool.not_eq_true'] at hc
          have hz : z ≠ 0 := fun h0 => by rw [h0] at hc; simp at hc
          have hle := Nat.le_of_ble_eq_true hc.1.2
          obtain ⟨q1, q2⟩ := chunk_cells z hz len (cs.drop off) (by simp; omega)
          refine ⟨.inr ⟨some ⟨κ.loc d i, off, none⟩, cap, (by rw [chunk_length]), fun ha => (by cases ha), fun a' ha => ?_⟩, hc.1.1, q2⟩
          cases ha
          rw [q1]
          obtain ⟨vals, r1, r2⟩ := reads_up (reads_obj hs hg off) (show d + 1 ≤ s.depth + 1 by omega)
          refine ⟨vals, fun j hj => r1 j (by simp at hj ⊢; omega), fun j c hj => r2 j c ?_⟩
          rw [List.getElem?_take] at hj
          split at hj
          · exact hj
          · cases hj
        · cases h
end
end Go.Ab
