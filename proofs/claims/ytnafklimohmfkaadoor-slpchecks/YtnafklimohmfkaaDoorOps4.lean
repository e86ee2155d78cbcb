/- Each operation of the abstract side is the machine's (4): elements, parts of slices and strings, comparisons, what is boxed and built. -/
import Derived.Test.YtnafklimohmfkaaDoorOps3
namespace Go.Ab
set_option linter.unusedSimpArgs false

theorem flat_get : ∀ (es : List AV) (sz i : Nat) (e : AV), (∀ e, e ∈ es → e.cells.length = sz) → es[i]? = some e → ∀ j, j < sz → (es.flatMap AV.cells)[i * sz + j]? = e.cells[j]?
  | [], _, _, _, _, h, _, _ => by simp at h
  | x :: es, sz, i, e, hl, h, j, hj => by
    have hx := hl x (by simp)
    simp only [List.flatMap_cons]
    cases i with
    | zero =>
      simp at h
      subst h
      rw [List.getElem?_append_left (by omega)]
      simp
    | succ i =>
      rw [List.getElem?_append_right (by rw [hx, Nat.succ_mul]; omega), hx, show (i + 1) * sz + j - sz = i * sz + j by rw [Nat.succ_mul]; omega]
      exact flat_get es sz i e (fun e he => hl e (by simp [he])) (by simpa using h) j hj
theorem flat_len : ∀ (es : List AV) (sz : Nat), (∀ e, e ∈ es → e.cells.length = sz) → (es.flatMap AV.cells).length = es.length * sz
  | [], sz, _ => by simp
  | x :: es, sz, hl => by
    simp only [List.flatMap_cons, List.length_append, List.length_cons, hl x (by simp), flat_len es sz (fun e he => hl e (by simp [he])), Nat.succ_mul]
    omega

theorem VR.sl_inv {κ : Kap} {D sz : Nat} {es : List AV} {g : Gr} {x : Value} (h : VR κ D (.sl sz es g) x) : (es = [] ∧ g = .nil ∧ x = .slice none 0 0) ∨
    ∃ (a : Addr) (cap : Nat) (vals : Nat → Value), x = .slice (some a) es.length cap ∧ GrOK κ D sz g es.length a cap ∧ es.length ≤ cap ∧ (es ≠ [] → a.spot = none) ∧ (∀ e, e ∈ es → e.cells.length = sz) ∧ (∀ e, e ∈ es → e.refless = true) ∧
      (∀ j, j < (es.flatMap AV.cells).length → κ.F (a.add j) = some (vals j)) ∧ ∀ (j : Nat) (c : AV), (es.flatMap AV.cells)[j]? = some c → VR κ D c (vals j) := by
  cases h with
  | slNil => exact .inl ⟨rfl, rfl, rfl⟩
  | sl => exact .inr ⟨_, _, _, rfl, by assumption, by assumption, by assumption, by assumption, by assumption, by assumption, by assumption⟩

section
variable {P : Program} {ty : TypeId} {ρ : Operand → Value} {κ : Kap} {s : St} {w : World} (hs : Sim κ s w)
include hs

theorem gives_idxSl {E : Env} (hE : E.F = .not) {k : AV → St → Res} {r : Res} (hf : r ≠ .fail) {t e : TypeId} {x y : Operand} {v i : AV} {sz : Nat} (ht : P.underlying t = some (.slice e)) (hz : tySize P e = some sz)
    (hx : VR κ (s.depth + 1) (v.pub s.depth) (ρ x)) (hi : VR κ (s.depth + 1) (i.pub s.depth) (ρ y)) (hr : idxV E s k sz v i = r) : ∃ v', k v' s = r ∧ Gives P (.indexAddr t x y) ty ρ κ s w v' s := by
  unfold idxV at hr
  cases hni : asNat i with
  | none => rw [hni] at hr; exact absurd hr.symm hf
  | some m =>
    rw [hni] at hr
    obtain ⟨kk, rfl⟩ := asNat_inv hni
    have ei := hi.int_inv
    have run : ∀ (a : Addr) (len cap : Nat), ρ x = .slice (some a) len cap → m < len → ∀ dst pos after guard, (execOp ρ ⟨dst, .indexAddr t x y, ty, pos, after, guard⟩).run P w = .ok (.value (.pointer (some (a.add (m * sz))))) w := by
      intro a len cap ha hm dst pos after guard
      simp [execOp, Instr.indexAt, run_underlying ht, ha, ei, asIntOf, hm, run_sizeOfB hz]
    cases v <;> simp only [AV.pub] at hx <;> simp only [hE, Force.not] at hr <;> try exact absurd hr.symm hf
    case sl z es g =>
      obtain ⟨hb, hr1⟩ := bif_cases hr hf
      clear hr
      obtain rfl : z = sz := Nat.eq_of_beq_eq_true hb
      cases he : es[m]? with
      | none => rw [he] at hr1; exact absurd hr1.symm hf
      | some el =>
        rw [he] at hr1
        simp only at hr1
        refine ⟨_, hr1, ?_⟩
        have hm := (List.getElem?_eq_some_iff.1 he).1
        rcases hx.sl_inv with ⟨rfl, _, _⟩ | ⟨a, cap, vals, ex, h1, h2, h3, h4, h5, h6, h7⟩
        · simp at he
        · refine gives_same hs _ (run a _ _ ex hm) ?_
          have hel := h4 el (List.mem_of_getElem? he)
          have hfl := flat_len es z h4
          refine .vptr _ _ (fun j => vals (m * z + j)) (add_spot' (h3 (fun e0 => by simp_all)) _) (fun j hj => ?_) (fun j c hc => ?_)
          · rw [add_add]
            refine h6 _ ?_
            rw [hfl]
            have : (m + 1) * z ≤ es.length * z := Nat.mul_le_mul_right _ hm
            rw [Nat.succ_mul] at this
            omega
          · have hj : j < z := by rw [← hel]; exact (List.getElem?_eq_some_iff.1 hc).1
            exact h7 _ c (by rw [flat_get es z m el h4 he j hj]; exact hc)
    case msl a off len cap z =>
      obtain ⟨hb, hr1⟩ := bif_cases hr hf
      clear hr
      rw [Bool.and_eq_true] at hb
      obtain rfl : z = sz := Nat.eq_of_beq_eq_true hb.1
      have hm : m < len := by simpa [Nat.blt_eq] using hb.2
      refine ⟨_, hr1, ?_⟩
      cases ha : a.pub s.depth with
      | l i => cases a <;> simp [Loc.pub] at ha
      | g d j =>
        rw [ha] at hx
        obtain ⟨e', hd, hj, _⟩ := hx.msl_inv
        refine gives_same hs _ (run _ _ _ e' hm) ?_
        simp only [AV.pub, ha, add_spot (show (⟨κ.loc d j, off, none⟩ : Addr).spot = none from rfl)]
        exact .ref d j _ hd hj

theorem gives_idxArr {E : Env} (hE : E.F = .not) {k : AV → St → Res} {r : Res} (hf : r ≠ .fail) {t e : TypeId} {x y : Operand} {v i : AV} {sz len : Nat} (ht : P.underlying t = some (.array len e)) (hz : tySize P e = some sz)
    (hx : VR κ (s.depth + 1) (v.pub s.depth) (ρ x)) (hi : VR κ (s.depth + 1) (i.pub s.depth) (ρ y)) (hr : idxArrV E s k sz len v i = r) : ∃ v', k v' s = r ∧ Gives P (.indexAddr t x y) ty ρ κ s w v' s := by
  unfold idxArrV at hr
  cases hni : asNat i with
  | none => rw [hni] at hr; exact absurd hr.symm hf
  | some m =>
    rw [hni] at hr
    obtain ⟨kk, rfl⟩ := asNat_inv hni
    have ei := hi.int_inv
    obtain ⟨hb, hr1⟩ := bif_cases hr hf
    clear hr
    have hm : m < len := by simpa [Nat.blt_eq] using hb
    have run : ∀ (a : Addr), ρ x = .pointer (some a) → ∀ dst pos after guard, (execOp ρ ⟨dst, .indexAddr t x y, ty, pos, after, guard⟩).run P w = .ok (.value (.pointer (some (a.add (m * sz))))) w := by
      intro a ha dst pos after guard
      simp [execOp, Instr.indexAt, run_underlying ht, ha, ei, asIntOf, hm, run_sizeOfB hz, Instr.sureAddr]
    cases v <;> simp only [AV.pub] at hx <;> simp only [hE, Force.not] at hr1 <;> try exact absurd hr1.symm hf
    case vptr cs =>
      obtain ⟨a, vals, e', h1, h2, h3⟩ := hx.vptr_inv
      refine ⟨_, hr1, gives_same hs _ (run a e') ?_⟩
      refine .vptr _ _ (fun j => vals (m * sz + j)) (add_spot' h1 _) (fun j hj => ?_) (fun j c hc => h3 _ c (by simpa using hc))
      rw [add_add]
      exact h2 _ (by simp at hj; omega)
    case ref a o =>
      refine ⟨_, hr1, ?_⟩
      cases ha : a.pub s.depth with
      | l i => cases a <;> simp [Loc.pub] at ha
      | g d j =>
        rw [ha] at hx
        obtain ⟨e', hd, hj⟩ := hx.ref_inv
        refine gives_same hs _ (run _ e') ?_
        simp only [AV.pub, ha, add_spot (show (⟨κ.loc d j, o, none⟩ : Addr).spot = none from rfl)]
        exact .ref d j _ hd hj

/-! ### Bounds -/
omit hs in
theorem run_sliceBoundN {v : AV} {m y : Nat} {x : Value} {D : Nat} (h : asNat v = some m) (hx : VR κ D v x) (hm : m ≤ y) (code : BoundsCode) : (Instr.sliceBound x y code).run P w = .ok m w := by
  obtain ⟨kk, rfl⟩ := asNat_inv h
  rw [hx.int_inv]
  simp [Instr.sliceBound, asIntOf, hm]
omit hs in
theorem asNat_pub {v : AV} {m : Nat} (h : asNat v = some m) (d : Nat) : v.pub d = v := by
  obtain ⟨kk, rfl⟩ := asNat_inv h
  rfl

/-- A bound of a slice expression. -/
def okBound (o : Option AOpd) (p : Option Operand) : Bool := okOpdO o p
omit hs in
theorem bound_some {G : Nat → AV} {fr : Nat → AV} {a : Act} (hfr : FR κ s fr a) (hG : GOK κ G) {o : Option AOpd} {p : Option Operand} (h : okOpdO o p = true) {dflt m : Nat} (hb : bound G fr o dflt = some m) :
    (o = none ∧ p = none ∧ m = dflt) ∨ ∃ x y v, o = some x ∧ p = some y ∧ asNat v = some m ∧ VR κ (s.depth + 1) v (a.eval y) := by
  cases o with
  | none => cases p with
    | none => simp [bound] at hb; exact .inl ⟨rfl, rfl, hb.symm⟩
    | some y => simp [okOpdO] at h
  | some x => cases p with
    | none => simp [okOpdO] at h
    | some y =>
      simp only [bound] at hb
      have hv := opnd_VR hfr hG (show okOpd x y = true by simpa [okOpdO] using h)
      rw [asNat_pub hb] at hv
      exact .inr ⟨x, y, _, rfl, rfl, hb, hv⟩

omit hs in
theorem bound_run {G : Nat → AV} {fr : Nat → AV} {a : Act} (hfr : FR κ s fr a) (hG : GOK κ G) {o : Option AOpd} {p : Option Operand} (h : okOpdO o p = true) {dflt m : Nat} (hb : bound G fr o dflt = some m) :
    (o = none ∧ p = none ∧ m = dflt) ∨ ∃ x y, o = some x ∧ p = some y ∧ ∀ (Y : Nat) (code : BoundsCode), m ≤ Y → (Instr.sliceBound (a.eval y) Y code).run P w = .ok m w := by
  rcases bound_some hfr hG h hb with h1 | ⟨x, y, v, h1, h2, h3, h4⟩
  · exact .inl h1
  · exact .inr ⟨x, y, h1, h2, fun Y code hm => run_sliceBoundN h3 h4 hm code⟩

omit hs in
theorem run_sliceBounds {G : Nat → AV} {fr : Nat → AV} {a : Act} (hfr : FR κ s fr a) (hG : GOK κ G) {lo hi mx : Option AOpd} {plo phi pmx : Option Operand} (hlo : okOpdO lo plo = true) (hhi : okOpdO hi phi = true) (hmx : okOpdO mx pmx = true)
    {l h m len cap : Nat} (bl : bound G fr lo 0 = some l) (bh : bound G fr hi len = some h) (bm : bound G fr mx cap = some m) (h1 : l ≤ h) (h2 : h ≤ m) (h3 : m ≤ cap) (hno : mx.isSome = true → hi.isSome = true) (isl : Bool) :
    (Instr.sliceBounds isl len cap (plo.map a.eval) (phi.map a.eval) (pmx.map a.eval)).run P w = .ok (l, h, m) w := by
  have h2' : h ≤ cap := by omega
  rcases bound_run (P := P) (w := w) hfr hG hlo bl with ⟨rfl, rfl, rfl⟩ | ⟨xl, yl, rfl, rfl, rl⟩ <;>
  rcases bound_run (P := P) (w := w) hfr hG hhi bh with ⟨rfl, rfl, rfl⟩ | ⟨xh, yh, rfl, rfl, rh⟩ <;>
  rcases bound_run (P := P) (w := w) hfr hG hmx bm with ⟨rfl, rfl, rfl⟩ | ⟨xm, ym, rfl, rfl, rm⟩ <;>
  first
    | (simp at hno; done)
    | simp (discharger := omega) [Instr.sliceBounds, *]
end
end Go.Ab
