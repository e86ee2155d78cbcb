/- Each operation of the abstract side is the machine's (2): addresses, loads, parts, slices, lengths. -/
import Derived.Test.YtnafklimohmfkaaDoorOps1
namespace Go.Ab
set_option linter.unusedSimpArgs false

def aggD : TypeDesc → Bool
  | .struct _ | .array _ _ => true
  | _ => false
def tyAgg (P : Program) (t : TypeId) : Option Bool := (P.underlying t).map aggD
def tySize (P : Program) (t : TypeId) : Option Nat := (P.info? t).map (·.size)

theorem run_isAggB {P : Program} {t : TypeId} {b : Bool} (h : tyAgg P t = some b) (w : World) : (isAgg t).run P w = .ok b w := by
  unfold tyAgg at h
  cases hd : P.underlying t with
  | none => simp [hd] at h
  | some d =>
    simp only [hd, Option.map_some, Option.some.injEq] at h
    subst h
    simp only [isAgg, Sem.run_bind, run_underlying hd, Result.andThen_ok]
    cases d <;> rfl
theorem run_sizeOfB {P : Program} {t : TypeId} {n : Nat} (h : tySize P t = some n) (w : World) : (sizeOf t).run P w = .ok n w := by
  unfold tySize at h
  cases hd : P.info? t with
  | none => simp [hd] at h
  | some i =>
    simp only [hd, Option.map_some, Option.some.injEq] at h
    subst h
    simp [sizeOf, typeInfo, hd]

section
variable {P : Program} {ty : TypeId} {ρ : Operand → Value} {κ : Kap} {s : St} {w : World} (hs : Sim κ s w)
include hs

/-- Cells that may be read from an address on. -/
def Reads (κ : Kap) (D : Nat) (w : World) (a : Addr) (cs : List AV) : Prop := ∃ vals : Nat → Value, (∀ j, j < cs.length → w.cell? (a.add j) = some (vals j)) ∧ ∀ (j : Nat) (c : AV), cs[j]? = some c → VR κ D c (vals j)

omit hs in
theorem Reads.drop {D : Nat} {a : Addr} {cs : List AV} (h : Reads κ D w a cs) (n : Nat) : Reads κ D w (a.add n) (cs.drop n) := by
  obtain ⟨vals, h1, h2⟩ := h
  refine ⟨fun j => vals (n + j), fun j hj => ?_, fun j c hc => h2 _ c (by simpa using hc)⟩
  rw [add_add]
  exact h1 _ (by simp at hj; omega)

theorem reads_vptr {D : Nat} {cs : List AV} {x : Value} (h : VR κ D (.vptr cs) x) : ∃ a, x = .pointer (some a) ∧ a.spot = none ∧ Reads κ D w a cs := by
  obtain ⟨a, vals, rfl, h1, h2, h3⟩ := h.vptr_inv
  exact ⟨a, rfl, h1, vals, fun j hj => (hs.froz _ _ (h2 j hj)).2, h3⟩
theorem reads_obj {d i : Nat} {cs : List AV} (h : s.get (.g d i) = some (.cells cs)) (off : Nat) : Reads κ (d + 1) w ⟨κ.loc d i, off, none⟩ (cs.drop off) := by
  obtain ⟨⟨C, e, fz, h1, h2, h3⟩, h4⟩ := hs.obj d i _ h
  refine ⟨fun j => C.getD (off + j) undef, fun j hj => ?_, fun j c hc => ?_⟩
  · rw [add_spot rfl, cell_of_heap h1]
    have hl : C.size = cs.length := by simpa using h3.1
    simp at hj
    simp [Array.getD, show off + j < C.size by omega]
  · obtain ⟨x, hx, hv⟩ := h3.get (show cs[off + j]? = some c by simpa using hc)
    have : C.getD (off + j) undef = x := by
      have hx' : C[off + j]? = some x := by simpa using hx
      simp [Array.getD_eq_getD_getElem?, hx']
    simpa [this] using hv

omit hs in
theorem reads_up {D D' : Nat} {a : Addr} {cs : List AV} (h : Reads κ D w a cs) (hD : D ≤ D') : Reads κ D' w a cs := by
  obtain ⟨v, h1, h2⟩ := h
  exact ⟨v, h1, fun j c hc => (h2 j c hc).up hD⟩

omit hs in
theorem reads_load {D : Nat} {a : Addr} {cs : List AV} (h : Reads κ D w a cs) {n : Nat} (hn : n ≤ cs.length) : ∃ xs : List Value, (loadCells a n).run P w = .ok xs.toArray w ∧ VRs κ D (cs.take n) xs := by
  obtain ⟨vals, h1, h2⟩ := h
  refine ⟨(List.range n).map vals, run_loadCells w a n vals (fun j hj => h1 j (by omega)), by simp; omega, fun j c x hc hx => ?_⟩
  simp only [List.getElem?_map, List.getElem?_range] at hx
  rw [List.getElem?_take] at hc
  by_cases hj : j < n
  · simp only [hj, ↓reduceIte] at hc
    have hx' : (List.range n)[j]? = some j := by simp [hj]
    rw [hx'] at hx
    simp only [Option.map_some, Option.some.injEq] at hx
    exact hx ▸ h2 j c hc
  · simp [hj] at hc

omit hs in
theorem run_loadVar_agg {D : Nat} {a : Addr} {cs : List AV} (h : Reads κ D w a cs) {n : Nat} (hn : n ≤ cs.length) {t : TypeId} (h1 : tyAgg P t = some true) (h2 : tySize P t = some n) : ∃ x, (loadVar t a).run P w = .ok x w ∧ VR κ D (.agg (cs.take n)) x := by
  obtain ⟨xs, e, hv⟩ := reads_load (P := P) h hn
  refine ⟨.agg xs.toArray, by simp [loadVar, run_isAggB h1, run_sizeOfB h2, e], .agg _ xs hv.1 hv.2⟩
omit hs in
theorem run_loadVar_one {D : Nat} {a : Addr} {c : AV} {cs : List AV} (h : Reads κ D w a (c :: cs)) {t : TypeId} (h1 : tyAgg P t = some false) : ∃ x, (loadVar t a).run P w = .ok x w ∧ VR κ D c x := by
  obtain ⟨vals, e, hv⟩ := h
  have e0 := e 0 (by simp)
  simp only [Addr.add, ↓reduceIte] at e0
  exact ⟨vals 0, by simp [loadVar, run_isAggB h1, e0], hv 0 c rfl⟩

/-- How a type is loaded: one cell, or so many. -/
def okLoad (P : Program) (t : TypeId) : Option Nat → Bool
  | none => tyAgg P t == some false
  | some n => tyAgg P t == some true && tySize P t == some n

omit hs in
/-- What a load of a temporary's own kind gives stays what it is. -/
theorem load_any {D : Nat} {a : Addr} {cs : List AV} (h : Reads κ D w a cs) {n : Option Nat} {t : TypeId} (hn : okLoad P t n = true) {E : Env} (hE : E.F = .not) {k : AV → St → Res} {r : Res} (hr : loadV E s k n cs = r) (hf : r ≠ .fail) :
    ∃ v x, k v s = r ∧ (loadVar t a).run P w = .ok x w ∧ VR κ D v x := by
  cases n with
  | none =>
    cases cs with
    | nil => simp [loadV] at hr; exact absurd hr.symm hf
    | cons c cs =>
      simp only [loadV, hE, Force.not] at hr
      obtain ⟨x, hx, hv⟩ := run_loadVar_one (P := P) h (by simpa [okLoad] using hn)
      exact ⟨c, x, hr, hx, hv⟩
  | some n =>
    simp only [okLoad, Bool.and_eq_true, beq_iff_eq] at hn
    simp only [loadV, hE, Force.not] at hr
    by_cases hl : n ≤ cs.length
    · rw [Nat.ble_eq_true_of_le hl, cond_true] at hr
      obtain ⟨x, hx, hv⟩ := run_loadVar_agg (P := P) h hl hn.1 hn.2
      exact ⟨_, x, hr, hx, hv⟩
    · have : Nat.ble n cs.length = false := by
        cases hb : Nat.ble n cs.length with
        | false => rfl
        | true => exact absurd (Nat.le_of_ble_eq_true hb) hl
      rw [this, cond_false] at hr
      exact absurd hr.symm hf

omit hs in
theorem GrOK.pub {D sz n cap : Nat} {g : Gr} {a : Addr} (h : GrOK κ D sz g n a cap) (d : Nat) : g.pub d = g := by
  cases g with
  | buf a => cases a with
    | l i => simp [GrOK] at h
    | g d i => rfl
  | _ => rfl
omit hs in
theorem pub_VR {D : Nat} {v : AV} {x : Value} (h : VR κ D v x) (d : Nat) : v.pub d = v := by
  cases h <;> try rfl
  simp only [AV.pub]
  rw [GrOK.pub (by assumption)]

theorem gives_load {E : Env} (hE : E.F = .not) {k : AV → St → Res} {r : Res} (hf : r ≠ .fail) {n : Option Nat} {t : TypeId} {x : Operand} {v : AV} (hn : okLoad P t n = true) (hx : VR κ (s.depth + 1) (v.pub s.depth) (ρ x))
    (hr : loadOp E s k n v = r) : ∃ v' , k v' s = r ∧ Gives P (.load t x) ty ρ κ s w v' s := by
  cases v <;> simp only [AV.pub] at hx <;> simp only [loadOp] at hr <;> try exact absurd hr.symm hf
  case vptr cs =>
    obtain ⟨a, e, _, hrd⟩ := reads_vptr hs hx
    obtain ⟨v', y, h1, h2, h3⟩ := load_any hrd hn hE hr hf
    exact ⟨v', h1, gives_same hs y (fun _ _ _ _ => by simp [execOp, Instr.loadAt, e, Instr.sureAddr, h2]) (by rw [pub_VR h3]; exact h3)⟩
  case ref a off =>
    rw [← St.get_pub] at hr
    cases ha : a.pub s.depth with
    | l i => cases a <;> simp [Loc.pub] at ha
    | g d i =>
      rw [ha] at hr hx
      obtain ⟨e, hd, _⟩ := hx.ref_inv
      cases hg : s.get (.g d i) with
      | none => rw [hg] at hr; exact absurd hr.symm hf
      | some o =>
        rw [hg] at hr
        cases o <;> try exact absurd hr.symm hf
        rename_i cs
        have hrd := reads_up (reads_obj hs hg off) (show d + 1 ≤ s.depth + 1 by omega)
        obtain ⟨v', y, h1, h2, h3⟩ := load_any hrd hn hE hr hf
        exact ⟨v', h1, gives_same hs y (fun _ _ _ _ => by simp [execOp, Instr.loadAt, e, Instr.sureAddr, h2]) (by rw [pub_VR h3]; exact h3)⟩
end
end Go.Ab
