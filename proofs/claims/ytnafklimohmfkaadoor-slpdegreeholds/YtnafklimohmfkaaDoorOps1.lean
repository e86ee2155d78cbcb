/- Each operation of the abstract side is the machine's (1): what only reckons, and what reads. -/
import Derived.Test.YtnafklimohmfkaaDoorAbs
import Derived.Laws.Strings
import Derived.Laws.Slices
import Derived.Laws.MakeOwn
import Derived.Laws.BytesArg
section
/- Each operation of the abstract side is the machine's (1): what only reckons, and what reads. -/
namespace Go.Ab
set_option linter.unusedSimpArgs false

theorem bytes_inj {a b : List UInt8} (h : a.map UInt8.toNat = b.map UInt8.toNat) : a = b := by
  have := List.map_inj_right (f := UInt8.toNat) (l := a) (l' := b) (fun x y hxy => UInt8.toNat_inj.1 hxy)
  exact this.1 h
theorem strEq_bytes (a b : List UInt8) : (a.map UInt8.toNat == b.map UInt8.toNat) = (a == b) := by
  rw [Bool.eq_iff_iff]
  simp only [beq_iff_eq]
  exact ⟨bytes_inj, fun h => by rw [h]⟩
theorem strLess_bytes : ∀ (a b : List UInt8), strLess (a.map UInt8.toNat) (b.map UInt8.toNat) = Op.bytesLess a b
  | _, [] => by simp [strLess, Op.bytesLess]
  | [], _ :: _ => by simp [strLess, Op.bytesLess]
  | a :: x, b :: y => by
    simp only [List.map_cons, strLess, Op.bytesLess, strLess_bytes x y]
    have h1 : Nat.blt a.toNat b.toNat = decide (a < b) := by
      rw [Bool.eq_iff_iff]; simp [Nat.blt_eq, UInt8.lt_iff_toNat_lt]
    have h2 : Nat.beq a.toNat b.toNat = (a == b) := by
      rw [Bool.eq_iff_iff]; simp [Nat.beq_eq, UInt8.toNat_inj]
    rw [h1, h2]

/-- The machine's operation gives what the abstract one gave. -/
def Gives (P : Program) (o : Op) (ty : TypeId) (ρ : Operand → Value) (κ : Kap) (s : St) (w : World) (v : AV) (s' : St) : Prop :=
  ∃ x κ' w', ((∀ dst pos after guard, (execOp ρ ⟨dst, o, ty, pos, after, guard⟩).run P w = .ok (.value x) w') ∨ ((∀ dst pos after guard, (execOp ρ ⟨dst, o, ty, pos, after, guard⟩).run P w = .ok .skip w') ∧ x = undef)) ∧
    Ext κ s w κ' s' w' ∧ Sim κ' s' w' ∧ VR κ' (s.depth + 1) (v.pub s.depth) x

theorem gives_same {P : Program} {o : Op} {ty : TypeId} {ρ : Operand → Value} {κ : Kap} {s : St} {w : World} {v : AV} (hs : Sim κ s w) (x : Value)
    (h : ∀ dst pos after guard, (execOp ρ ⟨dst, o, ty, pos, after, guard⟩).run P w = .ok (.value x) w) (hx : VR κ (s.depth + 1) (v.pub s.depth) x) : Gives P o ty ρ κ s w v s :=
  ⟨x, κ, w, .inl h, .refl _ _ _, hs, hx⟩

section
variable {P : Program} {ty : TypeId} {ρ : Operand → Value} {κ : Kap} {s : St} {w : World} (hs : Sim κ s w)
include hs

theorem gives_move {v : AV} {x : Operand} (h : VR κ (s.depth + 1) (v.pub s.depth) (ρ x)) : Gives P (.move x) ty ρ κ s w v s :=
  gives_same hs _ (fun _ _ _ _ => by simp [execOp]) h
theorem gives_assign {v : AV} {x : Operand} (h : VR κ (s.depth + 1) (v.pub s.depth) (ρ x)) : Gives P (.assign x) ty ρ κ s w v s :=
  gives_same hs _ (fun _ _ _ _ => by simp [execOp]) h
theorem gives_pick {t : Bool} {a b : AV} {c x y : Operand} (hc : ρ c = .bool t) (h1 : VR κ (s.depth + 1) (a.pub s.depth) (ρ x)) (h2 : VR κ (s.depth + 1) (b.pub s.depth) (ρ y)) :
    Gives P (.pick c x y) ty ρ κ s w (bif t then a else b) s := by
  refine gives_same hs (if t then ρ x else ρ y) (fun _ _ _ _ => by simp [execOp, hc, asBool]) ?_
  cases t <;> assumption

theorem gives_bin_int {op : BinOp} {k : IntKind} {m n : Int} {t yt : TypeId} {x y : Operand} {v : AV} (hx : ρ x = .int k m) (hy : ρ y = .int k n) (h : intBin op k m n = some v) : Gives P (.binOp op t x y yt) ty ρ κ s w v s := by
  have key : ∃ z, (binOp op t (.int k m) (.int k n)).run P w = .ok z w ∧ VR κ (s.depth + 1) (v.pub s.depth) z := by
    cases op <;> simp only [intBin, Option.some.injEq, reduceCtorEq] at h
    case quo =>
      by_cases hn : n = 0
      · simp [hn] at h
      · simp only [hn, ↓reduceIte, Option.some.injEq] at h; subst h; exact ⟨_, by simp only [binOp, Op.intDiv, hn, ne_eq, not_true_eq_false, ↓reduceIte]; rfl, .int k _⟩
    case rem =>
      by_cases hn : n = 0
      · simp [hn] at h
      · simp only [hn, ↓reduceIte, Option.some.injEq] at h; subst h; exact ⟨_, by simp only [binOp, Op.intDiv, hn, ne_eq, not_true_eq_false, ↓reduceIte]; rfl, .int k _⟩
    case add => subst h; exact ⟨_, by simp only [binOp, Op.intArith, ne_eq, not_true_eq_false, ↓reduceIte]; rfl, .int k _⟩
    case sub => subst h; exact ⟨_, by simp only [binOp, Op.intArith, ne_eq, not_true_eq_false, ↓reduceIte]; rfl, .int k _⟩
    case mul => subst h; exact ⟨_, by simp only [binOp, Op.intArith, ne_eq, not_true_eq_false, ↓reduceIte]; rfl, .int k _⟩
    case and => subst h; exact ⟨_, by simp only [binOp, Op.intBits, ne_eq, not_true_eq_false, ↓reduceIte]; rfl, .int k _⟩
    case or => subst h; exact ⟨_, by simp only [binOp, Op.intBits, ne_eq, not_true_eq_false, ↓reduceIte]; rfl, .int k _⟩
    case xor => subst h; exact ⟨_, by simp only [binOp, Op.intBits, ne_eq, not_true_eq_false, ↓reduceIte]; rfl, .int k _⟩
    case andNot => subst h; exact ⟨_, by simp only [binOp, Op.intBits, ne_eq, not_true_eq_false, ↓reduceIte]; rfl, .int k _⟩
    all_goals (subst h; exact ⟨_, by simp only [binOp, Op.intCmp, ne_eq, not_true_eq_false, ↓reduceIte]; rfl, .bool _⟩)
  obtain ⟨z, hz, hv⟩ := key
  refine gives_same hs z (fun _ _ _ _ => ?_) hv
  have hg : (eqGuard op t x y (.int k m) (.int k n)).run P w = .ok () w := by
    unfold eqGuard
    split <;> rfl
  simp [execOp, hx, hy, hg, hz]

theorem gives_shift {op : BinOp} {k k' : IntKind} {m n : Int} {t yt : TypeId} {x y : Operand} {v : AV} (hx : ρ x = .int k m) (hy : ρ y = .int k' n) (ho : op = .shl ∨ op = .shr) (h : shiftV op k m n = some v) : Gives P (.binOp op t x y yt) ty ρ κ s w v s := by
  unfold shiftV at h
  split at h
  · cases h
  · rename_i hn
    rcases ho with rfl | rfl <;> simp only [Option.some.injEq] at h <;> subst h <;> exact gives_same hs _ (fun _ _ _ _ => by simp only [execOp, hx, hy, eqGuard, binOp, Op.shift, hn]; rfl) (.int k _)

theorem gives_un_neg {k : IntKind} {n : Int} {t : TypeId} {x : Operand} (hx : ρ x = .int k n) : Gives P (.unOp .neg t x) ty ρ κ s w (.int k (k.wrap (0 - n))) s :=
  gives_same hs _ (fun _ _ _ _ => by simp only [execOp, hx, Op.unary, Op.intArith]; rfl) (.int k _)
theorem gives_un_xor {k : IntKind} {n : Int} {t : TypeId} {x : Operand} (hx : ρ x = .int k n) : Gives P (.unOp .xor t x) ty ρ κ s w (.int k (k.wrap (BitVec.ofInt k.bits (if k.signed then -1 else k.max) ^^^ BitVec.ofInt k.bits n).toNat)) s :=
  gives_same hs _ (fun _ _ _ _ => by simp only [execOp, hx, Op.unary, Op.intBits]; rfl) (.int k _)
theorem gives_un_not {b : Bool} {t : TypeId} {x : Operand} (hx : ρ x = .bool b) : Gives P (.unOp .not t x) ty ρ κ s w (.bool (!b)) s :=
  gives_same hs _ (fun _ _ _ _ => by simp [execOp, hx, Op.unary]) (.bool _)

theorem gives_bin_str {op : BinOp} {as bs : List Nat} {t yt : TypeId} {x y : Operand} {v : AV} (hx : VR κ (s.depth + 1) (.str as) (ρ x)) (hy : VR κ (s.depth + 1) (.str bs) (ρ y)) (h : strBin op as bs = some v) : Gives P (.binOp op t x y yt) ty ρ κ s w v s := by
  obtain ⟨a, hx, ha⟩ := hx.str_inv
  obtain ⟨b, hy, hb⟩ := hy.str_inv
  have hea : (a.toList == b.toList) = (as == bs) := by rw [Go.ByteArray.toList_eq, Go.ByteArray.toList_eq, ← ha, ← hb, strEq_bytes]
  have hla : Op.bytesLess a.toList b.toList = strLess as bs := by rw [Go.ByteArray.toList_eq, Go.ByteArray.toList_eq, ← ha, ← hb, strLess_bytes]
  have key : ∃ z, (binOp op t (.string a) (.string b)).run P w = .ok z w ∧ VR κ (s.depth + 1) (v.pub s.depth) z := by
    cases op <;> simp only [strBin, Option.some.injEq, reduceCtorEq] at h
    case add =>
      split at h
      · rename_i hle
        simp only [Option.some.injEq] at h
        subst h
        have hl := Nat.le_of_ble_eq_true hle
        have hsa : a.size = as.length := by have := congrArg List.length ha; rw [List.length_map, Array.length_toList] at this; exact this
        have hsb : b.size = bs.length := by have := congrArg List.length hb; rw [List.length_map, Array.length_toList] at this; exact this
        refine ⟨.string (a ++ b), ?_, .str _ _ ?_⟩
        · have : ¬ (((a.size + b.size : Nat) : Int) > IntKind.i64.max) := by rw [hsa, hsb]; show ¬ _ > (9223372036854775807 : Int); omega
          simp only [binOp, Op.stringOp, this, ↓reduceIte]
          rfl
        · rw [← ha, ← hb, ← List.map_append]
          simp
      · cases h
    all_goals (subst h; refine ⟨_, by simp only [binOp, Op.stringOp, hea, hla]; rfl, ?_⟩; exact .bool _)
  obtain ⟨z, hz, hv⟩ := key
  refine gives_same hs z (fun _ _ _ _ => ?_) hv
  have hg : (eqGuard op t x y (.string a) (.string b)).run P w = .ok () w := by
    unfold eqGuard
    split <;> rfl
  simp [execOp, hx, hy, hg, hz]

theorem gives_convInt {k k' : IntKind} {n : Int} {src dst : TypeId} {x : Operand} {d : TypeDesc} (hsrc : P.underlying src = some d) (hdst : P.underlying dst = some (.int k)) (hx : ρ x = .int k' n) : Gives P (.convert src dst x) ty ρ κ s w (.int k (k.wrap n)) s :=
  gives_same hs _ (fun _ _ _ _ => by simp [execOp, convert, run_underlying hsrc, run_underlying hdst, hx, Conv.intToInt]) (.int k _)
theorem gives_convId {bs : List Nat} {src dst : TypeId} {x : Operand} {d : TypeDesc} (hsrc : P.underlying src = some d) (hdst : P.underlying dst = some .string) (hx : VR κ (s.depth + 1) (.str bs) (ρ x)) : Gives P (.convert src dst x) ty ρ κ s w (.str bs) s := by
  obtain ⟨a, hx', ha⟩ := hx.str_inv
  exact gives_same hs _ (fun _ _ _ _ => by simp [execOp, convert, run_underlying hsrc, run_underlying hdst, hx']) (.str _ _ ha)
theorem gives_mkIface {v : AV} {t : TypeId} {x : Operand} {d : TypeDesc} (ht : P.underlying t = some d) (hd : (d matches .interface _) = false) (hx : VR κ (s.depth + 1) (v.pub s.depth) (ρ x)) : Gives P (.makeInterface t x) ty ρ κ s w (.iface t (v.pub s.depth)) s :=
  gives_same hs (.iface t (ρ x)) (fun _ _ _ _ => by
    simp only [execOp, Instr.makeInterface, map_eq_pure_bind, Sem.run_bind, run_underlying ht, Result.andThen_ok]
    cases d <;> simp at hd ⊢) (.iface t _ _ hx)
theorem gives_extract {vs : List AV} {i : Nat} {x : Operand} {v : AV} (hx : VR κ (s.depth + 1) (.tup vs) (ρ x)) (hv : vs[i]? = some v) (hp : v.pub s.depth = v) : Gives P (.extract x i) ty ρ κ s w v s := by
  obtain ⟨xs, hx', hl, h⟩ := hx.tup_inv
  have hi := (List.getElem?_eq_some_iff.1 hv).1
  have hxi : xs[i]? = some xs[i] := List.getElem?_eq_getElem (by omega)
  exact gives_same hs xs[i] (fun _ _ _ _ => by simp [execOp, Instr.extract, hx', hxi]) (by rw [hp]; exact h i v _ hv hxi)
end
end Go.Ab
end
section
/- Each operation of the abstract side is the machine's (2): addresses, loads, parts, slices, lengths. -/
namespace Go.Ab
set_option linter.unusedSimpArgs false

def aggD : TypeDesc → Bool
  | .struct _ | .array _ _ => true
  | _ => false
def tyAgg (P : Program) (t : TypeId) : Option Bool := (P.underlying t).map aggD
def tySize (P : Program) (t : TypeId) : Option Nat := (P.info? t).map (·.size)

theorem run_isAggB {P : Program} {t : TypeId} {b : Bool} (h : tyAgg P t = some b) (w : World) : (isAgg t).run P w = .ok b w := by
  unfold tyAgg at h
  cases hd : P.underlying t with
  | none => simp [hd] at h
  | some d =>
    simp only [hd, Option.map_some, Option.some.injEq] at h
    subst h
    simp only [isAgg, Sem.run_bind, run_underlying hd, Result.andThen_ok]
    cases d <;> rfl
theorem run_sizeOfB {P : Program} {t : TypeId} {n : Nat} (h : tySize P t = some n) (w : World) : (sizeOf t).run P w = .ok n w := by
  unfold tySize at h
  cases hd : P.info? t with
  | none => simp [hd] at h
  | some i =>
    simp only [hd, Option.map_some, Option.some.injEq] at h
    subst h
    simp [sizeOf, typeInfo, hd]

section
variable {P : Program} {ty : TypeId} {ρ : Operand → Value} {κ : Kap} {s : St} {w : World} (hs : Sim κ s w)
include hs

/-- Cells that may be read from an address on. -/
def Reads (κ : Kap) (D : Nat) (w : World) (a : Addr) (cs : List AV) : Prop := ∃ vals : Nat → Value, (∀ j, j < cs.length → w.cell? (a.add j) = some (vals j)) ∧ ∀ (j : Nat) (c : AV), cs[j]? = some c → VR κ D c (vals j)

omit hs in
theorem Reads.drop {D : Nat} {a : Addr} {cs : List AV} (h : Reads κ D w a cs) (n : Nat) : Reads κ D w (a.add n) (cs.drop n) := by
  obtain ⟨vals, h1, h2⟩ := h
  refine ⟨fun j => vals (n + j), fun j hj => ?_, fun j c hc => h2 _ c (by simpa using hc)⟩
  rw [add_add]
  exact h1 _ (by simp at hj; omega)

theorem reads_vptr {D : Nat} {cs : List AV} {x : Value} (h : VR κ D (.vptr cs) x) : ∃ a, x = .pointer (some a) ∧ a.spot = none ∧ Reads κ D w a cs := by
  obtain ⟨a, vals, rfl, h1, h2, h3⟩ := h.vptr_inv
  exact ⟨a, rfl, h1, vals, fun j hj => (hs.froz _ _ (h2 j hj)).2, h3⟩
theorem reads_obj {d i : Nat} {cs : List AV} (h : s.get (.g d i) = some (.cells cs)) (off : Nat) : Reads κ (d + 1) w ⟨κ.loc d i, off, none⟩ (cs.drop off) := by
  obtain ⟨⟨C, e, fz, h1, h2, h3⟩, h4⟩ := hs.obj d i _ h
  refine ⟨fun j => C.getD (off + j) undef, fun j hj => ?_, fun j c hc => ?_⟩
  · rw [add_spot rfl, cell_of_heap h1]
    have hl : C.size = cs.length := by simpa using h3.1
    simp at hj
    simp [Array.getD, show off + j < C.size by omega]
  · obtain ⟨x, hx, hv⟩ := h3.get (show cs[off + j]? = some c by simpa using hc)
    have : C.getD (off + j) undef = x := by
      have hx' : C[off + j]? = some x := by simpa using hx
      simp [Array.getD_eq_getD_getElem?, hx']
    simpa [this] using hv

omit hs in
theorem reads_up {D D' : Nat} {a : Addr} {cs : List AV} (h : Reads κ D w a cs) (hD : D ≤ D') : Reads κ D' w a cs := by
  obtain ⟨v, h1, h2⟩ := h
  exact ⟨v, h1, fun j c hc => (h2 j c hc).up hD⟩

omit hs in
theorem reads_load {D : Nat} {a : Addr} {cs : List AV} (h : Reads κ D w a cs) {n : Nat} (hn : n ≤ cs.length) : ∃ xs : List Value, (loadCells a n).run P w = .ok xs.toArray w ∧ VRs κ D (cs.take n) xs := by
  obtain ⟨vals, h1, h2⟩ := h
  refine ⟨(List.range n).map vals, run_loadCells w a n vals (fun j hj => h1 j (by omega)), by simp; omega, fun j c x hc hx => ?_⟩
  simp only [List.getElem?_map, List.getElem?_range] at hx
  rw [List.getElem?_take] at hc
  by_cases hj : j < n
  · simp only [hj, ↓reduceIte] at hc
    have hx' : (List.range n)[j]? = some j := by simp [hj]
    rw [hx'] at hx
    simp only [Option.map_some, Option.some.injEq] at hx
    exact hx ▸ h2 j c hc
  · simp [hj] at hc

omit hs in
theorem run_loadVar_agg {D : Nat} {a : Addr} {cs : List AV} (h : Reads κ D w a cs) {n : Nat} (hn : n ≤ cs.length) {t : TypeId} (h1 : tyAgg P t = some true) (h2 : tySize P t = some n) : ∃ x, (loadVar t a).run P w = .ok x w ∧ VR κ D (.agg (cs.take n)) x := by
  obtain ⟨xs, e, hv⟩ := reads_load (P := P) h hn
  refine ⟨.agg xs.toArray, by simp [loadVar, run_isAggB h1, run_sizeOfB h2, e], .agg _ xs hv.1 hv.2⟩
omit hs in
theorem run_loadVar_one {D : Nat} {a : Addr} {c : AV} {cs : List AV} (h : Reads κ D w a (c :: cs)) {t : TypeId} (h1 : tyAgg P t = some false) : ∃ x, (loadVar t a).run P w = .ok x w ∧ VR κ D c x := by
  obtain ⟨vals, e, hv⟩ := h
  have e0 := e 0 (by simp)
  simp only [Addr.add, ↓reduceIte] at e0
  exact ⟨vals 0, by simp [loadVar, run_isAggB h1, e0], hv 0 c rfl⟩

/-- How a type is loaded: one cell, or so many. -/
def okLoad (P : Program) (t : TypeId) : Option Nat → Bool
  | none => tyAgg P t == some false
  | some n => tyAgg P t == some true && tySize P t == some n

omit hs in
/-- What a load of a temporary's own kind gives stays what it is. -/
theorem load_any {D : Nat} {a : Addr} {cs : List AV} (h : Reads κ D w a cs) {n : Option Nat} {t : TypeId} (hn : okLoad P t n = true) {E : Env} (hE : E.F = .not) {k : AV → St → Res} {r : Res} (hr : loadV E s k n cs = r) (hf : r ≠ .fail) :
    ∃ v x, k v s = r ∧ (loadVar t a).run P w = .ok x w ∧ VR κ D v x := by
  cases n with
  | none =>
    cases cs with
    | nil => simp [loadV] at hr; exact absurd hr.symm hf
    | cons c cs =>
      simp only [loadV, hE, Force.not] at hr
      obtain ⟨x, hx, hv⟩ := run_loadVar_one (P := P) h (by simpa [okLoad] using hn)
      exact ⟨c, x, hr, hx, hv⟩
  | some n =>
    simp only [okLoad, Bool.and_eq_true, beq_iff_eq] at hn
    simp only [loadV, hE, Force.not] at hr
    by_cases hl : n ≤ cs.length
    · rw [Nat.ble_eq_true_of_le hl, cond_true] at hr
      obtain ⟨x, hx, hv⟩ := run_loadVar_agg (P := P) h hl hn.1 hn.2
      exact ⟨_, x, hr, hx, hv⟩
    · have : Nat.ble n cs.length = false := by
        cases hb : Nat.ble n cs.length with
        | false => rfl
        | true => exact absurd (Nat.le_of_ble_eq_true hb) hl
      rw [this, cond_false] at hr
      exact absurd hr.symm hf

omit hs in
theorem GrOK.pub {D sz n cap : Nat} {g : Gr} {a : Addr} (h : GrOK κ D sz g n a cap) (d : Nat) : g.pub d = g := by
  cases g with
  | buf a => cases a with
    | l i => simp [GrOK] at h
    | g d i => rfl
  | _ => rfl
omit hs in
theorem pub_VR {D : Nat} {v : AV} {x : Value} (h : VR κ D v x) (d : Nat) : v.pub d = v := by
  cases h <;> try rfl
  simp only [AV.pub]
  rw [GrOK.pub (by assumption)]

theorem gives_load {E : Env} (hE : E.F = .not) {k : AV → St → Res} {r : Res} (hf : r ≠ .fail) {n : Option Nat} {t : TypeId} {x : Operand} {v : AV} (hn : okLoad P t n = true) (hx : VR κ (s.depth + 1) (v.pub s.depth) (ρ x))
    (hr : loadOp E s k n v = r) : ∃ v' , k v' s = r ∧ Gives P (.load t x) ty ρ κ s w v' s := by
  cases v <;> simp only [AV.pub] at hx <;> simp only [loadOp] at hr <;> try exact absurd hr.symm hf
  case vptr cs =>
    obtain ⟨a, e, _, hrd⟩ := reads_vptr hs hx
    obtain ⟨v', y, h1, h2, h3⟩ := load_any hrd hn hE hr hf
    exact ⟨v', h1, gives_same hs y (fun _ _ _ _ => by simp [execOp, Instr.loadAt, e, Instr.sureAddr, h2]) (by rw [pub_VR h3]; exact h3)⟩
  case ref a off =>
    rw [← St.get_pub] at hr
    cases ha : a.pub s.depth with
    | l i => cases a <;> simp [Loc.pub] at ha
    | g d i =>
      rw [ha] at hr hx
      obtain ⟨e, hd, _⟩ := hx.ref_inv
      cases hg : s.get (.g d i) with
      | none => rw [hg] at hr; exact absurd hr.symm hf
      | some o =>
        rw [hg] at hr
        cases o <;> try exact absurd hr.symm hf
        rename_i cs
        have hrd := reads_up (reads_obj hs hg off) (show d + 1 ≤ s.depth + 1 by omega)
        obtain ⟨v', y, h1, h2, h3⟩ := load_any hrd hn hE hr hf
        exact ⟨v', h1, gives_same hs y (fun _ _ _ _ => by simp [execOp, Instr.loadAt, e, Instr.sureAddr, h2]) (by rw [pub_VR h3]; exact h3)⟩
end
end Go.Ab
end
section
/- Each operation of the abstract side is the machine's (3): fields, indexes, slices, strings. -/
namespace Go.Ab
set_option linter.unusedSimpArgs false

theorem asNat_inv {v : AV} {n : Nat} (h : asNat v = some n) : ∃ k, v = .int k n := by
  cases v <;> simp [asNat] at h
  rename_i k m
  exact ⟨k, by rw [← h.2, Int.toNat_of_nonneg h.1]⟩
theorem ble_cases {n m : Nat} {r : Res} {x : Res} (h : (bif Nat.ble n m then x else .fail) = r) (hf : r ≠ .fail) : n ≤ m ∧ x = r := by
  cases hb : Nat.ble n m with
  | true => rw [hb] at h; exact ⟨Nat.le_of_ble_eq_true hb, h⟩
  | false => rw [hb] at h; exact absurd h.symm hf
theorem bif_cases {b : Bool} {r : Res} {x : Res} (h : (bif b then x else .fail) = r) (hf : r ≠ .fail) : b = true ∧ x = r := by
  cases b with
  | true => exact ⟨rfl, h⟩
  | false => exact absurd h.symm hf

section
variable {P : Program} {ty : TypeId} {ρ : Operand → Value} {κ : Kap} {s : St} {w : World} (hs : Sim κ s w)
include hs

theorem gives_fieldAddr {E : Env} (hE : E.F = .not) {k : AV → St → Res} {r : Res} (hf : r ≠ .fail) {t : TypeId} {x : Operand} {v : AV} {i off : Nat} {fs : Array Field} {f : Field} (ht : P.underlying t = some (.struct fs)) (hfi : fs[i]? = some f) (ho : f.offset = off)
    {n : Nat} (hz : tySize P f.type = some n) (hn : n ≠ 0) (hx : VR κ (s.depth + 1) (v.pub s.depth) (ρ x)) (hr : fieldAddrV E s k off v = r) : ∃ v', k v' s = r ∧ Gives P (.fieldAddr t x i) ty ρ κ s w v' s := by
  have run : ∀ (a : Addr), ρ x = .pointer (some a) → ∀ dst pos after guard, (execOp ρ ⟨dst, .fieldAddr t x i, ty, pos, after, guard⟩).run P w = .ok (.value (.pointer (some (a.add off)))) w := by
    intro a ha dst pos after guard
    simp [execOp, Instr.fieldAt, run_underlying ht, hfi, ha, Instr.sureAddr, fieldPlace, run_sizeOfB hz, hn, ho]
  cases v <;> simp only [AV.pub] at hx <;> simp only [fieldAddrV, hE, Force.not] at hr <;> try exact absurd hr.symm hf
  case vptr cs =>
    obtain ⟨a, vals, e, h1, h2, h3⟩ := hx.vptr_inv
    refine ⟨_, hr, gives_same hs _ (run a e) ?_⟩
    refine .vptr _ _ (fun j => vals (off + j)) (add_spot' h1 _) (fun j hj => ?_) (fun j c hc => h3 _ c (by simpa using hc))
    rw [add_add]
    exact h2 _ (by simp at hj; omega)
  case ref a o =>
    refine ⟨_, hr, ?_⟩
    cases ha : a.pub s.depth with
    | l i => cases a <;> simp [Loc.pub] at ha
    | g d j =>
      rw [ha] at hx
      obtain ⟨e, hd, hj⟩ := hx.ref_inv
      refine gives_same hs _ (run _ e) ?_
      simp only [AV.pub, ha, add_spot (show (⟨κ.loc d j, o, none⟩ : Addr).spot = none from rfl)]
      exact .ref d j _ hd hj

omit hs in
theorem run_part {cs : List AV} {xs : List Value} {D off : Nat} (h : VRs κ D cs xs) {t : TypeId} {n : Option Nat} (hn : okLoad P t n = true) {E : Env} (hE : E.F = .not) {k : AV → St → Res} {r : Res} (hr : loadV E s k n (cs.drop off) = r) (hf : r ≠ .fail) :
    ∃ v x, k v s = r ∧ (part t xs.toArray off).run P w = .ok x w ∧ VR κ D v x := by
  have hd := h.drop off
  cases n with
  | none =>
    cases hc : cs.drop off with
    | nil => rw [hc] at hr; simp [loadV] at hr; exact absurd hr.symm hf
    | cons c cs' =>
      rw [hc] at hr
      simp only [loadV, hE, Force.not] at hr
      rw [hc] at hd
      obtain ⟨x, ys, hxs, hv, _⟩ := hd.uncons
      refine ⟨c, x, hr, ?_, hv⟩
      have hx0 : xs[off]? = some x := by
        have := congrArg (fun l : List Value => l[0]?) hxs
        simpa using this
      simp [part, run_isAggB (show tyAgg P t = some false by simpa [okLoad] using hn), hx0]
  | some n =>
    simp only [okLoad, Bool.and_eq_true, beq_iff_eq] at hn
    simp only [loadV, hE, Force.not] at hr
    obtain ⟨hl, hk⟩ := ble_cases hr hf
    refine ⟨_, .agg ((xs.drop off).take n).toArray, hk, ?_, .agg _ _ (hd.take n).1 (hd.take n).2⟩
    have : xs.toArray.extract off (off + n) = ((xs.drop off).take n).toArray := by
      rw [List.extract_toArray]
      congr 1
      simp [List.extract_eq_take_drop]
    simp [part, run_isAggB hn.1, run_sizeOfB hn.2, this]

theorem gives_field {E : Env} (hE : E.F = .not) {k : AV → St → Res} {r : Res} (hf : r ≠ .fail) {t : TypeId} {x : Operand} {v : AV} {i off : Nat} {n : Option Nat} {fs : Array Field} {f : Field} (ht : P.underlying t = some (.struct fs)) (hfi : fs[i]? = some f) (ho : f.offset = off)
    (hn : okLoad P f.type n = true) (hx : VR κ (s.depth + 1) (v.pub s.depth) (ρ x)) (hr : fieldV E s k off n v = r) : ∃ v', k v' s = r ∧ Gives P (.field t x i) ty ρ κ s w v' s := by
  cases v <;> simp only [AV.pub] at hx <;> simp only [fieldV] at hr <;> try exact absurd hr.symm hf
  obtain ⟨xs, e, h⟩ := hx.agg_inv
  obtain ⟨v', y, h1, h2, h3⟩ := run_part (w := w) h hn hE hr hf
  exact ⟨v', h1, gives_same hs y (fun _ _ _ _ => by simp [execOp, Instr.field, run_underlying ht, hfi, e, asAgg, ho, h2]) (by rw [pub_VR h3]; exact h3)⟩

theorem gives_idxAgg {E : Env} (hE : E.F = .not) {k : AV → St → Res} {r : Res} (hf : r ≠ .fail) {t e : TypeId} {x y : Operand} {v i : AV} {sz len : Nat} {n : Option Nat} (ht : P.underlying t = some (.array len e)) (hz : tySize P e = some sz)
    (hn : okLoad P e n = true) (hx : VR κ (s.depth + 1) (v.pub s.depth) (ρ x)) (hi : VR κ (s.depth + 1) (i.pub s.depth) (ρ y)) (hr : idxAggV E s k sz len n v i = r) : ∃ v', k v' s = r ∧ Gives P (.index t x y) ty ρ κ s w v' s := by
  cases v <;> simp only [AV.pub] at hx <;> simp only [idxAggV] at hr <;> try exact absurd hr.symm hf
  rename_i cs
  obtain ⟨xs, ex, h⟩ := hx.agg_inv
  cases hni : asNat i with
  | none => rw [hni] at hr; exact absurd hr.symm hf
  | some m =>
    rw [hni] at hr
    obtain ⟨kk, rfl⟩ := asNat_inv hni
    have ei := hi.int_inv
    obtain ⟨hb, hr⟩ := bif_cases hr hf
    have hm : m < len := by simpa [Nat.blt_eq] using hb
    obtain ⟨v', z, h1, h2, h3⟩ := run_part (w := w) h hn hE hr hf
    refine ⟨v', h1, gives_same hs z (fun _ _ _ _ => ?_) (by rw [pub_VR h3]; exact h3)⟩
    simp [execOp, Instr.index, run_underlying ht, ex, ei, asIntOf, hm, run_sizeOfB hz, h2]

theorem gives_idxStr {E : Env} (hE : E.F = .not) {k : AV → St → Res} {r : Res} (hf : r ≠ .fail) {t : TypeId} {x y : Operand} {v i : AV} (ht : P.underlying t = some .string)
    (hx : VR κ (s.depth + 1) (v.pub s.depth) (ρ x)) (hi : VR κ (s.depth + 1) (i.pub s.depth) (ρ y)) (hr : idxStrV E s k v i = r) : ∃ v', k v' s = r ∧ Gives P (.index t x y) ty ρ κ s w v' s := by
  cases v <;> simp only [AV.pub] at hx <;> simp only [idxStrV] at hr <;> try exact absurd hr.symm hf
  rename_i bs
  obtain ⟨a, ex, h⟩ := hx.str_inv
  cases hni : asNat i with
  | none => rw [hni] at hr; exact absurd hr.symm hf
  | some m =>
    rw [hni] at hr
    obtain ⟨kk, rfl⟩ := asNat_inv hni
    have ei := hi.int_inv
    cases hb : bs[m]? with
    | none => simp only [hb] at hr; exact absurd hr.symm hf
    | some b =>
      simp only [hb, hE, Force.not] at hr
      refine ⟨_, hr, gives_same hs (.int .u8 b) (fun _ _ _ _ => ?_) (.int _ _)⟩
      rw [← h, List.getElem?_map] at hb
      cases hc : a.data.toList[m]? with
      | none => simp [hc] at hb
      | some c =>
        simp only [hc, Option.map_some, Option.some.injEq] at hb
        subst hb
        have hlt := (List.getElem?_eq_some_iff.1 hc).1
        have hgm : a[m]? = some c := by
          have hsz : m < a.size := by rw [Array.length_toList] at hlt; exact hlt
          rw [getElem?_pos a m hsz]
          have h2 := (List.getElem?_eq_some_iff.1 hc).2
          rw [ByteArray.getElem_eq_getElem_data]
          simpa using h2
        have key : (Instr.index t (.string a) (.int kk m)).run P w = .ok (.int .u8 c.toNat) w := by
          simp only [Instr.index, Sem.run_bind, asIntOf, Sem.run_pure, Result.andThen_ok, run_underlying ht, Int.natCast_nonneg, ↓reduceIte, Int.toNat_natCast, hgm]
        simp only [execOp, ex, ei, Sem.run_bind, key, Result.andThen_ok, Sem.run_pure]

omit hs in
theorem sl_inv {D : Nat} {v : AV} {x : Value} (h : VR κ D v x) : (∀ sz es g, v = .sl sz es g → ∃ a c, x = .slice a es.length c) ∧ ∀ a off len cap sz, v = .msl a off len cap sz → ∃ p, x = .slice p len cap := by
  cases h <;> refine ⟨fun sz es g e => ?_, fun a off len cap sz e => ?_⟩ <;> cases e <;> first | exact ⟨_, _, rfl⟩ | exact ⟨_, rfl⟩

theorem gives_len {E : Env} (hE : E.F = .not) {k : AV → St → Res} {r : Res} (hf : r ≠ .fail) {b : Bool} {t : TypeId} {d : TypeDesc} {x : Operand} {v : AV} (ht : P.underlying t = some d) (hd : (b = true ∧ d = .string) ∨ (b = false ∧ ∃ e, d = .slice e))
    (hx : VR κ (s.depth + 1) (v.pub s.depth) (ρ x)) (hr : lenV E s k b v = r) : ∃ v', k v' s = r ∧ Gives P (.call { callee := .builtin .len, args := #[x], argTypes := #[t] }) ty ρ κ s w v' s := by
  have hsl := sl_inv hx
  cases v <;> simp only [AV.pub] at hx hsl <;> rcases hd with ⟨rfl, rfl⟩ | ⟨rfl, e, rfl⟩ <;> simp only [lenV, hE, Force.not] at hr <;> try exact absurd hr.symm hf
  case str.inl bs =>
    obtain ⟨a, ex, h⟩ := hx.str_inv
    refine ⟨_, hr, gives_same hs (.int .i64 bs.length) (fun _ _ _ _ => ?_) (.int _ _)⟩
    have : a.size = bs.length := by have := congrArg List.length h; rw [List.length_map, Array.length_toList] at this; exact this
    simp [execOp, resolve, invoke, builtin, Builtin.len_, run_underlying ht, ex, goInt, this]
  case sl.inr sz es g =>
    refine ⟨_, hr, gives_same hs (.int .i64 es.length) (fun _ _ _ _ => ?_) (.int _ _)⟩
    obtain ⟨a, c, ex⟩ := hsl.1 _ _ _ rfl
    simp [execOp, resolve, invoke, builtin, Builtin.len_, run_underlying ht, ex, goInt]
  case msl.inr a off len cap sz =>
    refine ⟨_, hr, gives_same hs (.int .i64 len) (fun _ _ _ _ => ?_) (.int _ _)⟩
    obtain ⟨p, ex⟩ := hsl.2 _ _ _ _ _ rfl
    simp [execOp, resolve, invoke, builtin, Builtin.len_, run_underlying ht, ex, goInt]
end
end Go.Ab
end
section
/- Each operation of the abstract side is the machine's (4): elements, parts of slices and strings, comparisons, what is boxed and built. -/
namespace Go.Ab
set_option linter.unusedSimpArgs false

theorem flat_get : ∀ (es : List AV) (sz i : Nat) (e : AV), (∀ e, e ∈ es → e.cells.length = sz) → es[i]? = some e → ∀ j, j < sz → (es.flatMap AV.cells)[i * sz + j]? = e.cells[j]?
  | [], _, _, _, _, h, _, _ => by simp at h
  | x :: es, sz, i, e, hl, h, j, hj => by
    have hx := hl x (by simp)
    simp only [List.flatMap_cons]
    cases i with
    | zero =>
      simp at h
      subst h
      rw [List.getElem?_append_left (by omega)]
      simp
    | succ i =>
      rw [List.getElem?_append_right (by rw [hx, Nat.succ_mul]; omega), hx, show (i + 1) * sz + j - sz = i * sz + j by rw [Nat.succ_mul]; omega]
      exact flat_get es sz i e (fun e he => hl e (by simp [he])) (by simpa using h) j hj
theorem flat_len : ∀ (es : List AV) (sz : Nat), (∀ e, e ∈ es → e.cells.length = sz) → (es.flatMap AV.cells).length = es.length * sz
  | [], sz, _ => by simp
  | x :: es, sz, hl => by
    simp only [List.flatMap_cons, List.length_append, List.length_cons, hl x (by simp), flat_len es sz (fun e he => hl e (by simp [he])), Nat.succ_mul]
    omega

theorem VR.sl_inv {κ : Kap} {D sz : Nat} {es : List AV} {g : Gr} {x : Value} (h : VR κ D (.sl sz es g) x) : (es = [] ∧ g = .nil ∧ x = .slice none 0 0) ∨
    ∃ (a : Addr) (cap : Nat) (vals : Nat → Value), x = .slice (some a) es.length cap ∧ GrOK κ D sz g es.length a cap ∧ es.length ≤ cap ∧ (es ≠ [] → a.spot = none) ∧ (∀ e, e ∈ es → e.cells.length = sz) ∧ SlOK g es ∧
      (∀ j, j < (es.flatMap AV.cells).length → κ.F (a.add j) = some (vals j)) ∧ ∀ (j : Nat) (c : AV), (es.flatMap AV.cells)[j]? = some c → VR κ D c (vals j) := by
  cases h with
  | slNil => exact .inl ⟨rfl, rfl, rfl⟩
  | sl => exact .inr ⟨_, _, _, rfl, by assumption, by assumption, by assumption, by assumption, by assumption, by assumption, by assumption⟩

section
variable {P : Program} {ty : TypeId} {ρ : Operand → Value} {κ : Kap} {s : St} {w : World} (hs : Sim κ s w)
include hs

theorem gives_idxSl {E : Env} (hE : E.F = .not) {k : AV → St → Res} {r : Res} (hf : r ≠ .fail) {t e : TypeId} {x y : Operand} {v i : AV} {sz : Nat} (ht : P.underlying t = some (.slice e)) (hz : tySize P e = some sz)
    (hx : VR κ (s.depth + 1) (v.pub s.depth) (ρ x)) (hi : VR κ (s.depth + 1) (i.pub s.depth) (ρ y)) (hr : idxV E s k sz v i = r) : ∃ v', k v' s = r ∧ Gives P (.indexAddr t x y) ty ρ κ s w v' s := by
  unfold idxV at hr
  cases hni : asNat i with
  | none => rw [hni] at hr; exact absurd hr.symm hf
  | some m =>
    rw [hni] at hr
    obtain ⟨kk, rfl⟩ := asNat_inv hni
    have ei := hi.int_inv
    have run : ∀ (a : Addr) (len cap : Nat), ρ x = .slice (some a) len cap → m < len → ∀ dst pos after guard, (execOp ρ ⟨dst, .indexAddr t x y, ty, pos, after, guard⟩).run P w = .ok (.value (.pointer (some (a.add (m * sz))))) w := by
      intro a len cap ha hm dst pos after guard
      simp [execOp, Instr.indexAt, run_underlying ht, ha, ei, asIntOf, hm, run_sizeOfB hz]
    cases v <;> simp only [AV.pub] at hx <;> simp only [hE, Force.not] at hr <;> try exact absurd hr.symm hf
    case sl z es g =>
      obtain ⟨hb, hr1⟩ := bif_cases hr hf
      clear hr
      obtain rfl : z = sz := Nat.eq_of_beq_eq_true hb
      cases he : es[m]? with
      | none => rw [he] at hr1; exact absurd hr1.symm hf
      | some el =>
        rw [he] at hr1
        simp only at hr1
        refine ⟨_, hr1, ?_⟩
        have hm := (List.getElem?_eq_some_iff.1 he).1
        rcases hx.sl_inv with ⟨rfl, _, _⟩ | ⟨a, cap, vals, ex, h1, h2, h3, h4, h5, h6, h7⟩
        · simp at he
        · refine gives_same hs _ (run a _ _ ex hm) ?_
          have hel := h4 el (List.mem_of_getElem? he)
          have hfl := flat_len es z h4
          refine .vptr _ _ (fun j => vals (m * z + j)) (add_spot' (h3 (fun e0 => by simp_all)) _) (fun j hj => ?_) (fun j c hc => ?_)
          · rw [add_add]
            refine h6 _ ?_
            rw [hfl]
            have : (m + 1) * z ≤ es.length * z := Nat.mul_le_mul_right _ hm
            rw [Nat.succ_mul] at this
            omega
          · have hj : j < z := by rw [← hel]; exact (List.getElem?_eq_some_iff.1 hc).1
            exact h7 _ c (by rw [flat_get es z m el h4 he j hj]; exact hc)
    case msl a off len cap z =>
      obtain ⟨hb, hr1⟩ := bif_cases hr hf
      clear hr
      rw [Bool.and_eq_true] at hb
      obtain rfl : z = sz := Nat.eq_of_beq_eq_true hb.1
      have hm : m < len := by simpa [Nat.blt_eq] using hb.2
      refine ⟨_, hr1, ?_⟩
      cases ha : a.pub s.depth with
      | l i => cases a <;> simp [Loc.pub] at ha
      | g d j =>
        rw [ha] at hx
        obtain ⟨e', hd, hj, _⟩ := hx.msl_inv
        refine gives_same hs _ (run _ _ _ e' hm) ?_
        simp only [AV.pub, ha, add_spot (show (⟨κ.loc d j, off, none⟩ : Addr).spot = none from rfl)]
        exact .ref d j _ hd hj

theorem gives_idxArr {E : Env} (hE : E.F = .not) {k : AV → St → Res} {r : Res} (hf : r ≠ .fail) {t e : TypeId} {x y : Operand} {v i : AV} {sz len : Nat} (ht : P.underlying t = some (.array len e)) (hz : tySize P e = some sz)
    (hx : VR κ (s.depth + 1) (v.pub s.depth) (ρ x)) (hi : VR κ (s.depth + 1) (i.pub s.depth) (ρ y)) (hr : idxArrV E s k sz len v i = r) : ∃ v', k v' s = r ∧ Gives P (.indexAddr t x y) ty ρ κ s w v' s := by
  unfold idxArrV at hr
  cases hni : asNat i with
  | none => rw [hni] at hr; exact absurd hr.symm hf
  | some m =>
    rw [hni] at hr
    obtain ⟨kk, rfl⟩ := asNat_inv hni
    have ei := hi.int_inv
    obtain ⟨hb, hr1⟩ := bif_cases hr hf
    clear hr
    have hm : m < len := by simpa [Nat.blt_eq] using hb
    have run : ∀ (a : Addr), ρ x = .pointer (some a) → ∀ dst pos after guard, (execOp ρ ⟨dst, .indexAddr t x y, ty, pos, after, guard⟩).run P w = .ok (.value (.pointer (some (a.add (m * sz))))) w := by
      intro a ha dst pos after guard
      simp [execOp, Instr.indexAt, run_underlying ht, ha, ei, asIntOf, hm, run_sizeOfB hz, Instr.sureAddr]
    cases v <;> simp only [AV.pub] at hx <;> simp only [hE, Force.not] at hr1 <;> try exact absurd hr1.symm hf
    case vptr cs =>
      obtain ⟨a, vals, e', h1, h2, h3⟩ := hx.vptr_inv
      refine ⟨_, hr1, gives_same hs _ (run a e') ?_⟩
      refine .vptr _ _ (fun j => vals (m * sz + j)) (add_spot' h1 _) (fun j hj => ?_) (fun j c hc => h3 _ c (by simpa using hc))
      rw [add_add]
      exact h2 _ (by simp at hj; omega)
    case ref a o =>
      refine ⟨_, hr1, ?_⟩
      cases ha : a.pub s.depth with
      | l i => cases a <;> simp [Loc.pub] at ha
      | g d j =>
        rw [ha] at hx
        obtain ⟨e', hd, hj⟩ := hx.ref_inv
        refine gives_same hs _ (run _ e') ?_
        simp only [AV.pub, ha, add_spot (show (⟨κ.loc d j, o, none⟩ : Addr).spot = none from rfl)]
        exact .ref d j _ hd hj

/-! ### Bounds -/
omit hs in
theorem run_sliceBoundN {v : AV} {m y : Nat} {x : Value} {D : Nat} (h : asNat v = some m) (hx : VR κ D v x) (hm : m ≤ y) (code : BoundsCode) : (Instr.sliceBound x y code).run P w = .ok m w := by
  obtain ⟨kk, rfl⟩ := asNat_inv h
  rw [hx.int_inv]
  simp [Instr.sliceBound, asIntOf, hm]
omit hs in
theorem asNat_pub {v : AV} {m : Nat} (h : asNat v = some m) (d : Nat) : v.pub d = v := by
  obtain ⟨kk, rfl⟩ := asNat_inv h
  rfl

/-- A bound of a slice expression. -/
def okBound (o : Option AOpd) (p : Option Operand) : Bool := okOpdO o p
omit hs in
theorem bound_some {G : Nat → AV} {fr : Nat → AV} {a : Act} (hfr : FR κ s fr a) (hG : GOK κ G) {o : Option AOpd} {p : Option Operand} (h : okOpdO o p = true) {dflt m : Nat} (hb : bound G fr o dflt = some m) :
    (o = none ∧ p = none ∧ m = dflt) ∨ ∃ x y v, o = some x ∧ p = some y ∧ asNat v = some m ∧ VR κ (s.depth + 1) v (a.eval y) := by
  cases o with
  | none => cases p with
    | none => simp [bound] at hb; exact .inl ⟨rfl, rfl, hb.symm⟩
    | some y => simp [okOpdO] at h
  | some x => cases p with
    | none => simp [okOpdO] at h
    | some y =>
      simp only [bound] at hb
      have hv := opnd_VR hfr hG (show okOpd x y = true by simpa [okOpdO] using h)
      rw [asNat_pub hb] at hv
      exact .inr ⟨x, y, _, rfl, rfl, hb, hv⟩

omit hs in
theorem bound_run {G : Nat → AV} {fr : Nat → AV} {a : Act} (hfr : FR κ s fr a) (hG : GOK κ G) {o : Option AOpd} {p : Option Operand} (h : okOpdO o p = true) {dflt m : Nat} (hb : bound G fr o dflt = some m) :
    (o = none ∧ p = none ∧ m = dflt) ∨ ∃ x y, o = some x ∧ p = some y ∧ ∀ (Y : Nat) (code : BoundsCode), m ≤ Y → (Instr.sliceBound (a.eval y) Y code).run P w = .ok m w := by
  rcases bound_some hfr hG h hb with h1 | ⟨x, y, v, h1, h2, h3, h4⟩
  · exact .inl h1
  · exact .inr ⟨x, y, h1, h2, fun Y code hm => run_sliceBoundN h3 h4 hm code⟩

omit hs in
theorem run_sliceBounds {G : Nat → AV} {fr : Nat → AV} {a : Act} (hfr : FR κ s fr a) (hG : GOK κ G) {lo hi mx : Option AOpd} {plo phi pmx : Option Operand} (hlo : okOpdO lo plo = true) (hhi : okOpdO hi phi = true) (hmx : okOpdO mx pmx = true)
    {l h m len cap : Nat} (bl : bound G fr lo 0 = some l) (bh : bound G fr hi len = some h) (bm : bound G fr mx cap = some m) (h1 : l ≤ h) (h2 : h ≤ m) (h3 : m ≤ cap) (hno : mx.isSome = true → hi.isSome = true) (isl : Bool) :
    (Instr.sliceBounds isl len cap (plo.map a.eval) (phi.map a.eval) (pmx.map a.eval)).run P w = .ok (l, h, m) w := by
  have h2' : h ≤ cap := by omega
  rcases bound_run (P := P) (w := w) hfr hG hlo bl with ⟨rfl, rfl, rfl⟩ | ⟨xl, yl, rfl, rfl, rl⟩ <;>
  rcases bound_run (P := P) (w := w) hfr hG hhi bh with ⟨rfl, rfl, rfl⟩ | ⟨xh, yh, rfl, rfl, rh⟩ <;>
  rcases bound_run (P := P) (w := w) hfr hG hmx bm with ⟨rfl, rfl, rfl⟩ | ⟨xm, ym, rfl, rfl, rm⟩ <;>
  first
    | (simp at hno; done)
    | simp (discharger := omega) [Instr.sliceBounds, *]
end
end Go.Ab
end
section
/- Each operation of the abstract side is the machine's (5): slices and strings in part, comparisons with nil, what is boxed and built. -/
namespace Go.Ab
set_option linter.unusedSimpArgs false

section
variable {P : Program} {ty : TypeId} {ρ : Operand → Value} {κ : Kap} {s : St} {w : World} (hs : Sim κ s w)

theorem take_drop_bytes (a : ByteArray) (l h : Nat) : (a.extract l h).data.toList = (a.data.toList.drop l).take (h - l) := by
  simp [List.extract_eq_take_drop]

include hs
theorem gives_subStr {E : Env} (hE : E.F = .not) {k : AV → St → Res} {r : Res} (hf : r ≠ .fail) {fr : Nat → AV} {a : Act} (hfr : FR κ s fr a) (hG : GOK κ E.glob) {t : TypeId} {x : AOpd} {y : Operand} {lo hi : Option AOpd} {plo phi : Option Operand} (ht : P.underlying t = some .string)
    (hxy : okOpd x y = true) (hlo : okOpdO lo plo = true) (hhi : okOpdO hi phi = true) (hr : subStrV E fr s k (opnd E.glob fr x) lo hi = r) : ∃ v', k v' s = r ∧ Gives P (.slice t y plo phi none) ty a.eval κ s w v' s := by
  have hx := opnd_VR hfr hG hxy
  generalize hv : opnd E.glob fr x = v at hx hr
  cases v <;> simp only [AV.pub] at hx <;> simp only [subStrV] at hr <;> try exact absurd hr.symm hf
  rename_i bs
  cases bl : bound E.glob fr lo 0 with
  | none => simp only [bl] at hr; exact absurd hr.symm hf
  | some l =>
    cases bh : bound E.glob fr hi bs.length with
    | none => simp only [bl, bh] at hr; exact absurd hr.symm hf
    | some h =>
      simp only [bl, bh, hE, Force.not] at hr
      obtain ⟨hb, hr1⟩ := bif_cases hr hf
      rw [Bool.and_eq_true] at hb
      have h1 := Nat.le_of_ble_eq_true hb.1
      have h2 := Nat.le_of_ble_eq_true hb.2
      obtain ⟨c, ex, hc⟩ := hx.str_inv
      have hsz : c.size = bs.length := by have := congrArg List.length hc; rw [List.length_map, Array.length_toList] at this; exact this
      refine ⟨_, hr1, gives_same hs (.string (c.extract l h)) (fun _ _ _ _ => ?_) (.str _ _ ?_)⟩
      · have hsb := run_sliceBounds (P := P) (w := w) hfr hG hlo hhi (show okOpdO none none = true from rfl) (len := c.size) (cap := c.size) bl (by rw [hsz]; exact bh) (m := c.size) rfl h1 (by omega) (Nat.le_refl _) (by simp) false
        simp only [Option.map_none] at hsb
        simp [execOp, Instr.sliceAt, Instr.slice, run_underlying ht, ex, hsb]
      · rw [take_drop_bytes, List.map_take, List.map_drop, hc]

theorem gives_sliceA {E : Env} (hE : E.F = .not) {k : AV → St → Res} {r : Res} (hf : r ≠ .fail) {fr : Nat → AV} {a : Act} (hfr : FR κ s fr a) (hG : GOK κ E.glob) {t e : TypeId} {sz n : Nat} {x : AOpd} {y : Operand} {lo hi mx : Option AOpd} {plo phi pmx : Option Operand} (ht : P.underlying t = some (.array n e)) (hz : tySize P e = some sz)
    (hxy : okOpd x y = true) (hlo : okOpdO lo plo = true) (hhi : okOpdO hi phi = true) (hmx : okOpdO mx pmx = true) (hno : mx.isSome = true → hi.isSome = true) (hr : sliceAV E fr s k sz n (opnd E.glob fr x) lo hi mx = r) : ∃ v', k v' s = r ∧ Gives P (.slice t y plo phi pmx) ty a.eval κ s w v' s := by
  have hx := opnd_VR hfr hG hxy
  generalize hv : opnd E.glob fr x = v at hx hr
  have run : ∀ (A : Addr) (l h m : Nat), a.eval y = .pointer (some A) → (Instr.sliceBounds false n n (plo.map a.eval) (phi.map a.eval) (pmx.map a.eval)).run P w = .ok (l, h, m) w → ∀ dst pos after guard, (execOp a.eval ⟨dst, .slice t y plo phi pmx, ty, pos, after, guard⟩).run P w = .ok (.value (.slice (some (if m = l then A else A.add (l * sz))) (h - l) (m - l))) w := by
    intro A l h m ex hb dst pos after guard
    simp [execOp, Instr.sliceAt, run_underlying ht, ex, hb, run_sizeOfB hz, Instr.sureAddr]
  cases v <;> simp only [AV.pub] at hx <;> simp only [sliceAV] at hr <;> try exact absurd hr.symm hf
  rename_i b off
  cases bl : bound E.glob fr lo 0 with
  | none => simp only [bl] at hr; exact absurd hr.symm hf
  | some l =>
    cases bh : bound E.glob fr hi n with
    | none => simp only [bl, bh] at hr; exact absurd hr.symm hf
    | some h =>
      cases bm : bound E.glob fr mx n with
      | none => simp only [bl, bh, bm] at hr; exact absurd hr.symm hf
      | some m =>
        simp only [bl, bh, bm, hE, Force.not] at hr
        obtain ⟨hb, hr1⟩ := bif_cases hr hf
        simp only [Bool.and_eq_true] at hb
        have h1 := Nat.le_of_ble_eq_true hb.1.1
        have h2 := Nat.le_of_ble_eq_true hb.1.2
        have h3 := Nat.le_of_ble_eq_true hb.2
        refine ⟨_, hr1, ?_⟩
        cases ha : b.pub s.depth with
        | l i => cases b <;> simp [Loc.pub] at ha
        | g d j =>
          rw [ha] at hx
          obtain ⟨ex, hd, hj⟩ := hx.ref_inv
          have hsb := run_sliceBounds (P := P) (w := w) hfr hG hlo hhi hmx (len := n) (cap := n) bl bh bm h1 h2 h3 hno false
          refine gives_same hs _ (run _ _ _ _ ex hsb) ?_
          simp only [AV.pub, ha]
          have : (if m = l then (⟨κ.loc d j, off, none⟩ : Addr) else (⟨κ.loc d j, off, none⟩ : Addr).add (l * sz)) = ⟨κ.loc d j, if m = l then off else off + l * sz, none⟩ := by
            split
            · rfl
            · simp [add_spot]
          rw [this]
          exact .msl d j _ _ _ sz hd hj (by omega)
omit hs in
theorem SlOK.left {g : Gr} {es : List AV} (h : SlOK g es) (hg : ∀ d j, g ≠ .buf (.g d j)) : ∀ e, e ∈ es → e.refless = true := by
  rcases h with h | ⟨d, j, e, _⟩
  · exact h
  · exact absurd e (hg d j)
omit hs in
theorem SlOK.part {g' : Gr} {es : List AV} (h : ∀ e, e ∈ es → e.refless = true) (l n : Nat) : SlOK g' ((es.drop l).take n) := .inl fun e he => h e (List.mem_of_mem_drop (List.mem_of_mem_take he))
theorem gives_slice {E : Env} (hE : E.F = .not) {k : AV → St → Res} {r : Res} (hf : r ≠ .fail) {fr : Nat → AV} {a : Act} (hfr : FR κ s fr a) (hG : GOK κ E.glob) {t e : TypeId} {sz : Nat} {x : AOpd} {y : Operand} {lo hi mx : Option AOpd} {plo phi pmx : Option Operand} (ht : P.underlying t = some (.slice e)) (hz : tySize P e = some sz)
    (hxy : okOpd x y = true) (hlo : okOpdO lo plo = true) (hhi : okOpdO hi phi = true) (hmx : okOpdO mx pmx = true) (hno : mx.isSome = true → hi.isSome = true) (hr : sliceV E fr s k sz (opnd E.glob fr x) lo hi mx = r) : ∃ v', k v' s = r ∧ Gives P (.slice t y plo phi pmx) ty a.eval κ s w v' s := by
  have hx := opnd_VR hfr hG hxy
  generalize hv : opnd E.glob fr x = v at hx hr
  have run : ∀ (A : Option Addr) (len cap l h m : Nat), a.eval y = .slice A len cap → (Instr.sliceBounds true len cap (plo.map a.eval) (phi.map a.eval) (pmx.map a.eval)).run P w = .ok (l, h, m) w → ∀ dst pos after guard, (execOp a.eval ⟨dst, .slice t y plo phi pmx, ty, pos, after, guard⟩).run P w = .ok (.value (.slice (if m = l then A else A.map (·.add (l * sz))) (h - l) (m - l))) w := by
    intro A len cap l h m ex hb dst pos after guard
    simp [execOp, Instr.sliceAt, Instr.slice, run_underlying ht, ex, hb, run_sizeOfB hz]
  cases v <;> simp only [AV.pub] at hx <;> simp only [sliceV] at hr <;> try exact absurd hr.symm hf
  case sl z es g =>
    cases bl : bound E.glob fr lo 0 with
    | none => simp only [bl] at hr; exact absurd hr.symm hf
    | some l =>
      cases bh : bound E.glob fr hi es.length with
      | none => simp only [bl, bh] at hr; exact absurd hr.symm hf
      | some h =>
        simp only [bl, bh, hE, Force.not] at hr
        -- what the part reads as
        have part : ∀ (A : Addr) (cap : Nat) (vals : Nat → Value) (g' : Gr), (es ≠ [] → A.spot = none) → (∀ e, e ∈ es → e.cells.length = sz) → SlOK (g'.pub s.depth) ((es.drop l).take (h - l)) →
            (∀ j, j < (es.flatMap AV.cells).length → κ.F (A.add j) = some (vals j)) → (∀ (j : Nat) (c : AV), (es.flatMap AV.cells)[j]? = some c → VR κ (s.depth + 1) c (vals j)) → l ≤ h → h ≤ es.length → ∀ m, h ≤ m → 
            GrOK κ (s.depth + 1) sz (g'.pub s.depth) (h - l) (if m = l then A else A.add (l * sz)) (m - l) → g'.pub s.depth ≠ .nil →
            VR κ (s.depth + 1) ((AV.sl sz ((es.drop l).take (h - l)) g').pub s.depth) (.slice (some (if m = l then A else A.add (l * sz))) (h - l) (m - l)) := by
          intro A cap vals g' hA h4 h5 h6 h7 hlh hhl m hhm hg hgn
          have hlen : ((es.drop l).take (h - l)).length = h - l := by simp; omega
          simp only [AV.pub]
          have hmem : ∀ e, e ∈ (es.drop l).take (h - l) → e ∈ es := fun e he => List.mem_of_mem_drop (List.mem_of_mem_take he)
          have hflat := flat_len es sz h4
          have hfl2 := flat_len _ sz (fun e he => h4 e (hmem e he))
          have hget : ∀ j, j < (h - l) * sz → ((((es.drop l).take (h - l))).flatMap AV.cells)[j]? = (es.flatMap AV.cells)[l * sz + j]? := by
            intro j hj
            have hsz0 : 0 < sz := Nat.pos_of_ne_zero (fun h0 => by rw [h0] at hj; simp at hj)
            have hq : j / sz < h - l := Nat.div_lt_of_lt_mul (by rw [Nat.mul_comm]; exact hj)
            have hr' : j % sz < sz := Nat.mod_lt _ hsz0
            have hj' : j = j / sz * sz + j % sz := by rw [Nat.mul_comm]; exact (Nat.div_add_mod j sz).symm
            have hle : l + j / sz < es.length := by omega
            have e1 : ((es.drop l).take (h - l))[j / sz]? = some es[l + j / sz] := by
              rw [List.getElem?_take, if_pos hq, List.getElem?_drop, List.getElem?_eq_getElem hle]
            have e2 : es[l + j / sz]? = some es[l + j / sz] := List.getElem?_eq_getElem hle
            have f1 := flat_get _ sz _ _ (fun e he => h4 e (hmem e he)) e1 (j % sz) hr'
            have f2 := flat_get es sz _ _ h4 e2 (j % sz) hr'
            rw [← hj'] at f1
            rw [f1, ← f2]
            congr 1
            rw [Nat.add_mul]
            omega
          by_cases hml : m = l
          · have h0 : h - l = 0 := by omega
            rw [if_pos hml] at hg ⊢
            have hnil : (es.drop l).take (h - l) = [] := by rw [h0]; simp
            rw [hnil]
            rw [h0] at hg ⊢
            exact .sl sz [] _ A _ vals hg (Nat.zero_le _) (fun h => absurd rfl h) (fun e he => by simp at he) (.inl fun e he => by simp at he) (fun j hj => by simp at hj) (fun j c hc => by simp at hc)
          · rw [if_neg hml] at hg ⊢
            have key : VR κ (s.depth + 1) (AV.sl sz ((es.drop l).take (h - l)) (g'.pub s.depth)) (.slice (some (A.add (l * sz))) ((es.drop l).take (h - l)).length (m - l)) := by
             refine .sl sz _ _ _ _ (fun j => vals (l * sz + j)) (by rw [hlen]; exact hg) (by rw [hlen]; omega) (fun hne => add_spot' (hA (fun e0 => hne (by simp [e0]))) _) (fun e he => h4 e (hmem e he)) h5 (fun j hj => ?_) (fun j c hc => ?_)
             · rw [add_add]
               refine h6 _ ?_
               rw [hfl2, hlen] at hj
               rw [hflat]
               have : h * sz ≤ es.length * sz := Nat.mul_le_mul_right _ hhl
               have e3 : l * sz + (h - l) * sz = h * sz := by rw [← Nat.add_mul]; congr 1; omega
               omega
             · have hj := (List.getElem?_eq_some_iff.1 hc).1
               rw [hfl2, hlen] at hj
               rw [hget j hj] at hc
               exact h7 _ c hc
            rw [hlen] at key
            exact key
        cases mx with
        | none =>
          cases pmx with
          | some y => simp [okOpdO] at hmx
          | none =>
          simp only at hr
          obtain ⟨hb, hr1⟩ := bif_cases hr hf
          rw [Bool.and_eq_true, Bool.and_eq_true, Bool.and_eq_true] at hb
          have hzz : z = sz := (Nat.eq_of_beq_eq_true hb.1.1.1).symm
          subst hzz
          have h1 := Nat.le_of_ble_eq_true hb.1.1.2
          have h2 := Nat.le_of_ble_eq_true hb.1.2
          have hpart := hb.2
          refine ⟨_, hr1, ?_⟩
          rcases hx.sl_inv with ⟨rfl, hg, ex⟩ | ⟨A, cap, vals, ex, hg, hn, hA, h4, h5, h6, h7⟩
          · have hgn : g = .nil := by cases g <;> simp_all [Gr.pub]
            subst hgn
            simp only [List.length_nil, Nat.le_zero_eq] at h2
            subst h2
            simp only [Nat.le_zero_eq] at h1
            subst h1
            have hsb := run_sliceBounds (P := P) (w := w) hfr hG hlo hhi hmx (len := 0) (cap := 0) bl bh (m := 0) rfl (Nat.le_refl _) (Nat.le_refl _) (Nat.le_refl _) (by simp) true
            exact gives_same hs _ (run _ _ _ _ _ _ ex hsb) (by simp; exact .slNil z)
          · have hsb := run_sliceBounds (P := P) (w := w) hfr hG hlo hhi hmx (len := es.length) (cap := cap) bl bh (m := cap) rfl h1 (by omega) (Nat.le_refl _) (by simp) true
            refine gives_same hs _ (run _ _ _ _ _ _ ex hsb) ?_
            have hp := fun g' hs5 hg' hgn => part A cap vals g' hA h4 hs5 h6 h7 h1 h2 cap (by omega) hg' hgn
            have e1 : (if cap = l then some A else Option.map (fun x => x.add (l * z)) (some A)) = some (if cap = l then A else A.add (l * z)) := by split <;> rfl
            rw [e1]
            cases g with
            | nil => simp [Gr.pub, GrOK] at hg
            | any => exact hp .any (.part (h5.left (by simp [Gr.pub])) l (h - l)) trivial (by simp [Gr.pub])
            | exact =>
              simp only [Gr.pub, GrOK] at hg
              subst hg
              by_cases hh : h = es.length
              · subst hh; simp only [↓reduceIte]; exact hp .exact (.part (h5.left (by simp [Gr.pub])) l _) rfl (by simp [Gr.pub])
              · simp only [hh, ↓reduceIte]; exact hp .any (.part (h5.left (by simp [Gr.pub])) l (h - l)) trivial (by simp [Gr.pub])
            | buf b =>
              by_cases hh : l = 0 ∧ h = es.length
              · obtain ⟨rfl, rfl⟩ := hh
                simp only [true_and, ↓reduceIte]
                refine hp (.buf b) (by simpa using h5) ?_ (by simp [Gr.pub])
                simp only [Nat.sub_zero, Nat.zero_mul, Addr.add, ↓reduceIte]
                simpa using hg
              · have hrl : ∀ e, e ∈ es → e.refless = true := by
                  simp only [partOK, Bool.or_eq_true, Bool.and_eq_true] at hpart
                  rcases hpart with ⟨q1, q2⟩ | q
                  · exact absurd ⟨Nat.eq_of_beq_eq_true q1, Nat.eq_of_beq_eq_true q2⟩ hh
                  · exact reflessL_iff.1 q
                simp only [hh, ↓reduceIte]; exact hp .any (.part hrl l (h - l)) trivial (by simp [Gr.pub])
        | some xm =>
          cases pmx with
          | none => simp [okOpdO] at hmx
          | some ym =>
          cases bm : asNat (opnd E.glob fr xm) with
          | none =>
            simp only [bm] at hr
            cases g <;> simp only at hr <;> exact absurd hr.symm hf
          | some m =>
            simp only [bm] at hr
            have hgn : g ≠ .nil := by rintro rfl; exact absurd hr.symm hf
            have hr' : (bif Nat.beq sz z && Nat.ble l h && Nat.ble h m && Nat.ble m es.length && partAny g es then k (.sl z ((es.drop l).take (h - l)) (if h = m then .exact else .any)) s else .fail) = r := by
              cases g <;> first | exact absurd rfl hgn | exact hr
            obtain ⟨hb, hr1⟩ := bif_cases hr' hf
            simp only [Bool.and_eq_true] at hb
            have hzz : z = sz := (Nat.eq_of_beq_eq_true hb.1.1.1.1).symm
            subst hzz
            have h1 := Nat.le_of_ble_eq_true hb.1.1.1.2
            have h2 := Nat.le_of_ble_eq_true hb.1.1.2
            have h3 := Nat.le_of_ble_eq_true hb.1.2
            have hpart := hb.2
            refine ⟨_, hr1, ?_⟩
            rcases hx.sl_inv with ⟨rfl, hg, ex⟩ | ⟨A, cap, vals, ex, hg, hn, hA, h4, h5, h6, h7⟩
            · exact absurd (by cases g <;> simp_all [Gr.pub]) hgn
            · have hsb := run_sliceBounds (P := P) (w := w) hfr hG hlo hhi hmx (len := es.length) (cap := cap) bl bh (m := m) bm h1 h2 (by omega) hno true
              refine gives_same hs _ (run _ _ _ _ _ _ ex hsb) ?_
              have hrl : ∀ e, e ∈ es → e.refless = true := by
                cases g with
                | buf b => exact reflessL_iff.1 hpart
                | nil => exact h5.left (by simp [Gr.pub])
                | exact => exact h5.left (by simp [Gr.pub])
                | any => exact h5.left (by simp [Gr.pub])
              have hp := fun g' hg' hgn => part A cap vals g' hA h4 (.part hrl l (h - l)) h6 h7 h1 (by omega) m h2 hg' hgn
              have e1 : (if m = l then some A else Option.map (fun x => x.add (l * z)) (some A)) = some (if m = l then A else A.add (l * z)) := by split <;> rfl
              rw [e1]
              by_cases hh : h = m
              · subst hh; simp only [↓reduceIte]; exact hp .exact rfl (by simp [Gr.pub])
              · simp only [hh, ↓reduceIte]; exact hp .any trivial (by simp [Gr.pub])
  case msl b off len cap z =>
    cases bl : bound E.glob fr lo 0 with
    | none => simp only [bl] at hr; exact absurd hr.symm hf
    | some l =>
      cases bh : bound E.glob fr hi len with
      | none => simp only [bl, bh] at hr; exact absurd hr.symm hf
      | some h =>
        cases bm : bound E.glob fr mx cap with
        | none => simp only [bl, bh, bm] at hr; exact absurd hr.symm hf
        | some m =>
          simp only [bl, bh, bm, hE, Force.not] at hr
          obtain ⟨hb, hr1⟩ := bif_cases hr hf
          simp only [Bool.and_eq_true] at hb
          have hzz : z = sz := (Nat.eq_of_beq_eq_true hb.1.1.1).symm
          subst hzz
          have h1 := Nat.le_of_ble_eq_true hb.1.1.2
          have h2 := Nat.le_of_ble_eq_true hb.1.2
          have h3 := Nat.le_of_ble_eq_true hb.2
          refine ⟨_, hr1, ?_⟩
          cases ha : b.pub s.depth with
          | l i => cases b <;> simp [Loc.pub] at ha
          | g d j =>
            rw [ha] at hx
            obtain ⟨ex, hd, hj, _⟩ := hx.msl_inv
            have hsb := run_sliceBounds (P := P) (w := w) hfr hG hlo hhi hmx (len := len) (cap := cap) bl bh bm h1 h2 h3 hno true
            refine gives_same hs _ (run _ _ _ _ _ _ ex hsb) ?_
            simp only [AV.pub, ha]
            have : (if m = l then some (⟨κ.loc d j, off, none⟩ : Addr) else Option.map (fun (x : Addr) => x.add (l * z)) (some ⟨κ.loc d j, off, none⟩)) = some ⟨κ.loc d j, if m = l then off else off + l * z, none⟩ := by
              split
              · rfl
              · simp [add_spot]
            rw [this]
            exact .msl d j _ _ _ z hd hj (by omega)
end
end Go.Ab
end
section
/- Each operation of the abstract side is the machine's (6): nil, what is boxed, built, made, stored. -/
namespace Go.Ab
set_option linter.unusedSimpArgs false

theorem fold_splice (l : List Value) : ∀ (n : Nat) (cs : Array Value) (off : Nat), (l.zipIdx n).foldl (fun cs (p : Value × Nat) => cs.setIfInBounds (off + p.2) p.1) cs = (splice cs.toList (off + n) l).toArray := by
  induction l with
  | nil => intro n cs off; simp [splice]
  | cons v l ih =>
    intro n cs off
    simp only [List.zipIdx_cons, List.foldl_cons, splice]
    rw [ih (n + 1)]
    congr 1
    simp [Array.toList_setIfInBounds, Nat.add_assoc]
theorem fold_spliceA (C : Array Value) (cs : Array Value) (off : Nat) : C.zipIdx.foldl (fun cs (p : Value × Nat) => cs.setIfInBounds (off + p.2) p.1) cs = (splice cs.toList off C.toList).toArray := by
  rw [← Array.foldl_toList, Array.toList_zipIdx, fold_splice]
  simp

section
variable {P : Program} {ty : TypeId} {ρ : Operand → Value} {κ : Kap} {s : St} {w : World} (hs : Sim κ s w)

/-- Parts with their places. -/
def okParts (place : Nat → Option (Nat × Nat)) : List (Nat × Nat × AOpd) → List (Nat × Operand) → Bool
  | [], [] => true
  | (off, sz, x) :: ps, (i, y) :: qs => (place i == some (off, sz)) && okOpd x y && okParts place ps qs
  | _, _ => false

theorem fill_ok {G : Nat → AV} {fr : Nat → AV} {a : Act} (hfr : FR κ s fr a) (hG : GOK κ G) (place : Nat → Option (Nat × Nat)) : ∀ (ps : List (Nat × Nat × AOpd)) (qs : List (Nat × Operand)) (cs cs' : List AV) (xs : List Value),
    okParts place ps qs = true → VRs κ (s.depth + 1) cs xs → fillParts G s.depth fr cs ps = some cs' → ∃ xs', Instr.fill place xs.toArray (qs.map fun p => (p.1, a.eval p.2)) = some xs'.toArray ∧ VRs κ (s.depth + 1) cs' xs'
  | [], [], cs, cs', xs, _, h, hf => by
    simp only [fillParts, Option.some.injEq] at hf
    exact ⟨xs, rfl, hf ▸ h⟩
  | [], _ :: _, _, _, _, h, _, _ => by simp [okParts] at h
  | _ :: _, [], _, _, _, h, _, _ => by simp [okParts] at h
  | (off, sz, x) :: ps, (i, y) :: qs, cs, cs', xs, hok, h, hf => by
    simp only [okParts, Bool.and_eq_true, beq_iff_eq] at hok
    simp only [fillParts] at hf
    have hx := opnd_VR hfr hG hok.1.2
    generalize (opnd G fr x).pub s.depth = v at hx hf
    cases hb : (v.isVal && Nat.beq v.cells.length sz && Nat.ble (off + sz) cs.length) with
    | false => rw [hb] at hf; simp at hf
    | true =>
      rw [hb, cond_true] at hf
      simp only [Bool.and_eq_true] at hb
      have hv := hx.cells hb.1.1
      have h1 := Nat.eq_of_beq_eq_true hb.1.2
      have h2 := Nat.le_of_ble_eq_true hb.2
      have h3 := h.splice hv (o := off) (by omega)
      obtain ⟨xs', e, hv'⟩ := fill_ok hfr hG place ps qs _ cs' _ hok.2 h3 hf
      refine ⟨xs', ?_, hv'⟩
      have hsz : (a.eval y).cells.size = sz := by rw [← Array.length_toList, hv.1, h1]
      have hle : ¬ (off + (a.eval y).cells.size > xs.toArray.size) := by simp only [List.size_toArray, h.1, hsz]; omega
      have hle' : decide (off + (a.eval y).cells.size > xs.toArray.size) = false := decide_eq_false hle
      have hf2 := fold_spliceA (a.eval y).cells xs.toArray off
      simp only [List.map_cons, Instr.fill, hok.1.1, hsz, ne_eq, not_true_eq_false, decide_false, Bool.false_or]
      rw [← hsz, hle']
      simp only [Bool.false_eq_true, ↓reduceIte]
      rw [hf2]
      exact e

/-- The zero value of a type. -/
def okZero (P : Program) (t : TypeId) (z : List AV) : Bool :=
  match (P.info? t).bind (·.zero) with
  | some v => okVals z v.cells.toList
  | none => false
theorem run_zero {t : TypeId} {z : List AV} (h : okZero P t z = true) (w : World) : ∃ v, (zeroValue t).run P w = .ok v w ∧ (∀ κ D, VRs κ D z v.cells.toList) ∧ AV.reflessL z = true ∧ ∃ i, P.info? t = some i ∧ i.zero = some v := by
  unfold okZero at h
  cases hi : P.info? t with
  | none => simp [hi] at h
  | some i =>
    cases hz : i.zero with
    | none => simp [hi, hz] at h
    | some v =>
      simp only [hi, Option.bind_some, hz] at h
      obtain ⟨h1, h2⟩ := okVals_sound _ _ h
      exact ⟨v, by simp [zeroValue, typeInfo, hi, hz], h1, h2, i, rfl, hz⟩

include hs
theorem gives_new {v : Value} {t : TypeId} {o : Op} {cs : List AV} (hc : VRs κ (s.depth + 1) cs v.cells.toList) (h : ∀ dst pos after guard, (execOp ρ ⟨dst, o, ty, pos, after, guard⟩).run P w = .ok (.value (.pointer (some ⟨w.heap.size, 0, none⟩))) (w.alloc (.cells v.cells t))) :
    Gives P o ty ρ κ s w (.ref (.l s.own.length) 0) (s.new (.cells cs)) := by
  obtain ⟨κ', h1, h2, h3, h4⟩ := hs.allocCells cs v.cells t hc (w' := w.alloc (.cells v.cells t)) rfl rfl rfl rfl
  refine ⟨_, κ', _, .inl h, h2, h1, ?_⟩
  simp only [AV.pub, Loc.pub]
  rw [← h3]
  exact .ref _ _ _ (Nat.lt_succ_self _) h4

theorem gives_alloc {t : TypeId} {z : List AV} (hz : okZero P t z = true) : Gives P (.alloc t) ty ρ κ s w (.ref (.l s.own.length) 0) (s.new (.cells z)) := by
  obtain ⟨v, e, h1, _, _⟩ := run_zero hz w
  exact gives_new hs (v := v) (t := t) (h1 _ _) (fun _ _ _ _ => by simp [execOp, Instr.alloc, e, newVar, newRow])
theorem gives_boxMut {t : TypeId} {x : Operand} {v : AV} (hx : VR κ (s.depth + 1) (v.pub s.depth) (ρ x)) (hv : v.isVal = true) : Gives P (.box t x) ty ρ κ s w (.ref (.l s.own.length) 0) (s.new (.cells (v.pub s.depth).cells)) :=
  gives_new hs (v := ρ x) (t := t) (hx.cells (by rw [isVal_pub]; exact hv)) (fun _ _ _ _ => by simp [execOp, Instr.box, newVar, newRow])
theorem gives_frozen {C : Array Value} {t : TypeId} {o : Op} {cs : List AV} (hc : VRs κ (s.depth + 1) cs C.toList) (x : Addr → Value) (v : AV) (hxv : ∀ κ', KLe κ κ' (s.depth + 1) → (∀ j, j < cs.length → κ'.F ⟨w.heap.size, j, none⟩ = C[j]?) → VR κ' (s.depth + 1) (v.pub s.depth) (x ⟨w.heap.size, 0, none⟩))
    (h : ∀ dst pos after guard, (execOp ρ ⟨dst, o, ty, pos, after, guard⟩).run P w = .ok (.value (x ⟨w.heap.size, 0, none⟩)) (w.alloc (.cells C t))) : Gives P o ty ρ κ s w v s := by
  obtain ⟨h1, h2⟩ := hs.allocFrozen (w' := w.alloc (.cells C t)) C t (0, 0) rfl rfl rfl rfl
  have hl : C.size = cs.length := by simpa using hc.1
  refine ⟨_, _, _, .inl h, h2, h1, hxv _ h2.k (fun j hj => ?_)⟩
  rw [freeze_at (Nat.zero_le _) (by omega), Array.getElem?_eq_getElem (by omega)]
theorem gives_boxRo {t : TypeId} {x : Operand} {v : AV} (hx : VR κ (s.depth + 1) (v.pub s.depth) (ρ x)) (hv : v.isVal = true) : Gives P (.box t x) ty ρ κ s w (.vptr (v.pub s.depth).cells) s := by
  have hc := hx.cells (by rw [isVal_pub]; exact hv)
  refine gives_frozen hs (t := t) hc (fun a => .pointer (some a)) _ (fun κ' hk hF => ?_) (fun _ _ _ _ => by simp [execOp, Instr.box, newVar, newRow])
  refine .vptr _ _ (fun j => (ρ x).cells.getD j undef) rfl (fun j hj => ?_) (fun j c hj => ?_)
  · rw [add_spot rfl]
    simp only [Nat.zero_add]
    rw [hF j hj]
    have : j < (ρ x).cells.size := by have := hc.1; simp at this; omega
    simp [Array.getD, this]
  · obtain ⟨y, hy, hv'⟩ := hc.get hj
    have : (ρ x).cells.getD j undef = y := by
      have hy' : (ρ x).cells[j]? = some y := by simpa using hy
      simp [Array.getD_eq_getD_getElem?, hy']
    rw [this]
    exact hv'.mono hk

theorem gives_mkFunc {f : Nat} {cs : List AOpd} {caps : List Operand} {G : Nat → AV} {fr : Nat → AV} {a : Act} (hfr : FR κ s fr a) (hG : GOK κ G) (h : okOpds cs caps = true) :
    Gives P (.makeFunc (.func f) #[] caps.toArray) ty a.eval κ s w (.fn f (cs.map fun x => (opnd G fr x).pub s.depth)) s := by
  have key : ∀ (cs : List AOpd) (caps : List Operand), okOpds cs caps = true → VRs κ (s.depth + 1) (cs.map fun x => (opnd G fr x).pub s.depth) (caps.map a.eval) := by
    intro cs
    induction cs with
    | nil => intro caps h; cases caps with
      | nil => exact .nil _ _
      | cons _ _ => simp [okOpds] at h
    | cons c cs ih => intro caps h; cases caps with
      | nil => simp [okOpds] at h
      | cons y ys =>
        simp only [okOpds, Bool.and_eq_true] at h
        exact .cons (opnd_VR hfr hG h.1) (ih ys h.2)
  have hk := key cs caps h
  exact gives_same hs (.func (.func f) #[] (caps.map a.eval).toArray) (fun _ _ _ _ => by simp [execOp, Instr.makeFunc]) (.fn f _ _ hk.1 hk.2)

theorem gives_build_struct {G : Nat → AV} {fr : Nat → AV} {a : Act} (hfr : FR κ s fr a) (hG : GOK κ G) {t : TypeId} {z cs : List AV} {ps : List (Nat × Nat × AOpd)} {qs : List (Nat × Operand)} {fs : Array Field} (ht : P.underlying t = some (.struct fs)) (hz : okZero P t z = true)
    {pl : Array (Nat × Nat)} (hpl : (fs.toList.mapM fun f => (tySize P f.type).map fun n => (f.offset, n)) = some pl.toList) (hok : okParts (pl[·]?) ps qs = true) (hc : fillParts G s.depth fr z ps = some cs) :
    Gives P (.build t qs.toArray) ty a.eval κ s w (.agg cs) s := by
  obtain ⟨v, e, h1, _, _⟩ := run_zero hz w
  have hmap : ∀ (fs : List Field) (pl : List (Nat × Nat)), (fs.mapM fun f => (tySize P f.type).map fun n => (f.offset, n)) = some pl → (fs.mapM fun f => do pure (f.offset, ← sizeOf f.type) : Sem _).run P w = .ok pl w := by
    intro fs
    induction fs with
    | nil => intro pl h; simp at h; subst h; simp
    | cons f fs ih =>
      intro pl h
      simp only [List.mapM_cons, Option.bind_eq_bind, Option.bind_eq_some_iff, Option.pure_def, Option.some.injEq] at h
      obtain ⟨p, hp, ps, hps, rfl⟩ := h
      cases hsz : tySize P f.type with
      | none => simp [hsz] at hp
      | some n =>
        simp only [hsz, Option.map_some, Option.some.injEq] at hp
        subst hp
        have := ih ps hps
        simp only [bind_pure_comp] at this
        simp [List.mapM_cons, run_sizeOfB hsz, this]
  have hm : (fs.mapM fun f => do pure (f.offset, ← sizeOf f.type) : Sem _).run P w = .ok pl w := by
    rw [Array.mapM_eq_mapM_toList]
    have := hmap fs.toList pl.toList hpl
    simp only [bind_pure_comp] at this
    simp [this]
  obtain ⟨xs', e', hv⟩ := fill_ok hfr hG _ ps qs z cs v.cells.toList hok (h1 _ _) hc
  refine gives_same hs (.agg xs'.toArray) (fun _ _ _ _ => ?_) (.agg _ _ hv.1 hv.2)
  simp only [Array.toArray_toList] at e'
  simp only [bind_pure_comp] at hm
  simp [execOp, Instr.build, e, run_underlying ht, hm, e']

theorem gives_build_array {G : Nat → AV} {fr : Nat → AV} {a : Act} (hfr : FR κ s fr a) (hG : GOK κ G) {t el : TypeId} {len sz : Nat} {z cs : List AV} {ps : List (Nat × Nat × AOpd)} {qs : List (Nat × Operand)} (ht : P.underlying t = some (.array len el)) (hsz : tySize P el = some sz) (hz : okZero P t z = true)
    (hok : okParts (fun i => some (i * sz, sz)) ps qs = true) (hc : fillParts G s.depth fr z ps = some cs) :
    Gives P (.build t qs.toArray) ty a.eval κ s w (.agg cs) s := by
  obtain ⟨v, e, h1, _, _⟩ := run_zero hz w
  obtain ⟨xs', e', hv⟩ := fill_ok hfr hG _ ps qs z cs v.cells.toList hok (h1 _ _) hc
  refine gives_same hs (.agg xs'.toArray) (fun _ _ _ _ => ?_) (.agg _ _ hv.1 hv.2)
  simp only [Array.toArray_toList] at e'
  simp [execOp, Instr.build, e, run_underlying ht, run_sizeOfB hsz, e']

/-! ### Slices that are built and made -/
omit hs in
theorem fill_slice {G : Nat → AV} {fr : Nat → AV} {a : Act} (hfr : FR κ s fr a) (hG : GOK κ G) (sz : Nat) : ∀ (ps : List AOpd) (qs : List Operand) (i : Nat) (es : List AV) (pre : List Value) (rest : List Value),
    okOpds ps qs = true → es = ps.map (fun x => (opnd G fr x).pub s.depth) → (∀ e, e ∈ es → e.isVal = true ∧ e.cells.length = sz) → pre.length = i * sz → rest.length = qs.length * sz →
    ∃ xs, Instr.fill (fun i => some (i * sz, sz)) (pre ++ rest).toArray ((qs.zipIdx i).map fun p => (p.2, a.eval p.1)) = some (pre ++ xs).toArray ∧ VRs κ (s.depth + 1) (es.flatMap AV.cells) xs
  | [], [], i, es, pre, rest, _, he, _, _, hr => by
    subst he
    have : rest = [] := by simpa using hr
    subst this
    exact ⟨[], by simp [Instr.fill], .nil _ _⟩
  | [], _ :: _, _, _, _, _, h, _, _, _, _ => by simp [okOpds] at h
  | _ :: _, [], _, _, _, _, h, _, _, _, _ => by simp [okOpds] at h
  | x :: ps, y :: qs, i, es, pre, rest, hok, he, hes, hp, hr => by
    simp only [okOpds, Bool.and_eq_true] at hok
    subst he
    have hx := opnd_VR hfr hG hok.1
    obtain ⟨h1, h2⟩ := hes ((opnd G fr x).pub s.depth) (by simp)
    have hv := hx.cells h1
    have hsz : (a.eval y).cells.toList.length = sz := by rw [hv.1, h2]
    have hrl : rest.length = sz + qs.length * sz := by rw [hr, List.length_cons, Nat.succ_mul, Nat.add_comm]
    have hspl : splice (pre ++ rest) (i * sz) (a.eval y).cells.toList = (pre ++ (a.eval y).cells.toList) ++ rest.drop sz := by
      apply List.ext_getElem?
      intro j
      rw [splice_get _ _ _ (by simp only [List.length_append]; omega), hsz]
      by_cases hj1 : j < i * sz
      · rw [if_neg (by omega), List.append_assoc, List.getElem?_append_left (by omega), List.getElem?_append_left (by omega)]
      · by_cases hj2 : j < i * sz + sz
        · rw [if_pos ⟨by omega, hj2⟩, List.append_assoc, List.getElem?_append_right (by omega), List.getElem?_append_left (by omega), hp]
        · rw [if_neg (by omega), List.getElem?_append_right (by omega), List.getElem?_append_right (by simp only [List.length_append]; omega), List.getElem?_drop]
          congr 1
          simp only [List.length_append]
          omega
    obtain ⟨xs, e, hxs⟩ := fill_slice hfr hG sz ps qs (i + 1) _ (pre ++ (a.eval y).cells.toList) (rest.drop sz) hok.2 rfl (fun e he => hes e (by simp at he ⊢; exact .inr he)) (by simp only [List.length_append, hp, hsz, Nat.succ_mul]) (by simp only [List.length_drop]; omega)
    refine ⟨(a.eval y).cells.toList ++ xs, ?_, by simpa using hv.append hxs⟩
    have hszA : (a.eval y).cells.size = sz := by rw [← Array.length_toList]; exact hsz
    have hle : decide (i * sz + (a.eval y).cells.size > (pre ++ rest).toArray.size) = false := decide_eq_false (by simp only [List.size_toArray, List.length_append]; omega)
    have hf2 := fold_spliceA (a.eval y).cells (pre ++ rest).toArray (i * sz)
    rw [hspl] at hf2
    simp only [List.zipIdx_cons, List.map_cons, Instr.fill, hszA, ne_eq, not_true_eq_false, decide_false, Bool.false_or]
    rw [hszA] at hle
    rw [hle]
    simp only [Bool.false_eq_true, ↓reduceIte]
    rw [hf2, e, List.append_assoc]

omit hs in
theorem run_buildSlice {t el : TypeId} {sz n : Nat} {v : Value} {parts : Array (Nat × Value)} {xs : Array Value} (ht : P.underlying t = some (.slice el)) (hsz : tySize P el = some sz) (hv : (zeroValue el).run P w = .ok v w) (hbig : ¬ (n * sz > 2 ^ 24))
    (hf : Instr.fill (fun i => some (i * sz, sz)) ((Array.range (n * sz)).map (v.cells[· % v.cells.size]!)) parts.toList = some xs) : (Instr.buildSlice t n parts).run P w = .ok (.slice (some ⟨w.heap.size, 0, none⟩) n n) (w.alloc (.cells xs el)) := by
  unfold Instr.buildSlice
  simp only [Sem.run_bind, run_underlying ht, Result.andThen_ok, run_sizeOfB hsz]
  rw [if_neg hbig]
  by_cases h0 : n * sz = 0
  · have e0 : (Array.range (n * sz)).map (fun x => (#[] : Array Value)[x % (#[] : Array Value).size]!) = (Array.range (n * sz)).map (v.cells[· % v.cells.size]!) := by
      rw [h0]; simp
    rw [if_pos h0]
    simp only [Sem.run_bind, Sem.run_pure, Result.andThen_ok]
    rw [e0, hf]
    simp [newRow]
  · rw [if_neg h0]
    simp only [Sem.run_bind, hv, Result.andThen_ok, Sem.run_pure]
    rw [hf]
    simp [newRow]

theorem gives_buildSlice {G : Nat → AV} {fr : Nat → AV} {a : Act} (hfr : FR κ s fr a) (hG : GOK κ G) {t el : TypeId} {sz : Nat} {z : List AV} {ps : List AOpd} {qs : List Operand} (ht : P.underlying t = some (.slice el)) (hsz : tySize P el = some sz) (hz : okZero P el z = true) (hzl : z.length = sz)
    (hbig : ¬ (qs.length * sz > 2 ^ 24)) (hok : okOpds ps qs = true) (hr : AV.reflessL (ps.map (opnd G fr)) = true) (hv : ∀ e, e ∈ ps.map (opnd G fr) → e.isVal = true ∧ e.cells.length = sz) :
    Gives P (.buildSlice t qs.length (qs.zipIdx.map fun p => (p.2, p.1)).toArray) ty a.eval κ s w (.sl sz (ps.map (opnd G fr)) .exact) s := by
  obtain ⟨v, e, h1, _, _⟩ := run_zero hz w
  have hpub : ps.map (fun x => (opnd G fr x).pub s.depth) = ps.map (opnd G fr) := by
    apply List.map_congr_left
    intro x hx
    exact refless_pub (reflessL_iff.1 hr _ (List.mem_map_of_mem hx)) _
  have hvs : v.cells.size = sz := by rw [← Array.length_toList, (h1 κ 0).1, hzl]
  have hlen : (ps.map (opnd G fr)).length = qs.length := by
    have : ∀ (ps : List AOpd) (qs : List Operand), okOpds ps qs = true → ps.length = qs.length := by
      intro ps
      induction ps with
      | nil => intro qs h; cases qs <;> simp [okOpds] at h ⊢
      | cons p ps ih => intro qs h; cases qs with
        | nil => simp [okOpds] at h
        | cons q qs => simp only [okOpds, Bool.and_eq_true] at h; simp [ih qs h.2]
    simp [this ps qs hok]
  obtain ⟨xs, e', hxs⟩ := fill_slice hfr hG sz ps qs 0 (ps.map (opnd G fr)) [] ((Array.range (qs.length * sz)).map (v.cells[· % v.cells.size]!)).toList hok hpub.symm hv (by simp) (by simp)
  have hrun : ∀ dst pos after guard, (execOp a.eval ⟨dst, .buildSlice t qs.length (qs.zipIdx.map fun p => (p.2, p.1)).toArray, ty, pos, after, guard⟩).run P w = .ok (.value (.slice (some ⟨w.heap.size, 0, none⟩) qs.length qs.length)) (w.alloc (.cells xs.toArray el)) := by
    intro dst pos after guard
    simp only [List.nil_append, Array.toArray_toList] at e'
    have hrb := run_buildSlice (parts := ((qs.zipIdx.map fun p => (p.2, p.1)).toArray.map fun p => (p.1, a.eval p.2))) ht hsz e hbig (xs := xs.toArray) (by
      rw [Array.toList_map, List.map_map]
      exact e')
    have hx : ∀ (o : Oper), o.op = .buildSlice t qs.length (qs.zipIdx.map fun p => (p.2, p.1)).toArray → execOp a.eval o = (do pure (.value (← Instr.buildSlice t qs.length ((qs.zipIdx.map fun p => (p.2, p.1)).toArray.map fun p => (p.1, a.eval p.2)))) : Sem Next) := by
      intro o ho
      unfold execOp
      rw [ho]
    rw [hx _ rfl, Sem.run_bind, hrb]
    rfl
  have hc : VRs κ (s.depth + 1) ((ps.map (opnd G fr)).flatMap AV.cells) xs.toArray.toList := hxs
  generalize hop : Op.buildSlice t qs.length (qs.zipIdx.map fun p => (p.2, p.1)).toArray = op at hrun ⊢
  generalize hn : qs.length = n at hrun hlen
  generalize hes : ps.map (opnd G fr) = es at hc hlen hr hv ⊢
  clear hop hn e' hxs hpub hbig hok
  refine gives_frozen hs (t := el) hc (fun A => .slice (some A) n n) (.sl sz es .exact) (fun κ' hk hF => ?_) hrun
  simp only [AV.pub, Gr.pub]
  rw [← hlen]
  refine .sl sz _ .exact _ _ (fun j => xs.getD j undef) rfl (Nat.le_refl _) (fun _ => rfl) (fun e he => (hv e he).2) (.inl fun e he => reflessL_iff.1 hr e he) (fun j hj => ?_) (fun j c hj => ?_)
  · rw [add_spot rfl]
    simp only [Nat.zero_add]
    rw [hF j hj]
    have hl : xs.length = (es.flatMap AV.cells).length := hc.1
    have : j < xs.length := by omega
    simp [List.getD, this]
  · obtain ⟨y, hy, hv'⟩ := hc.get hj
    have : xs.getD j undef = y := by
      have hy' : xs[j]? = some y := hy
      simp [List.getD, hy']
    rw [this]
    exact hv'.mono hk
end
end Go.Ab
end
section
/- Each operation of the abstract side is the machine's (7): what is compared, made, stored, frozen, copied. -/
namespace Go.Ab
set_option linter.unusedSimpArgs false

theorem chunk1_cells (c : AV) : (chunk1 c).cells = [c] := by cases c <;> rfl
theorem chunk_length (sz : Nat) : ∀ (n : Nat) (cs : List AV), (chunk sz n cs).length = n
  | 0, _ => rfl
  | n + 1, cs => by simp [chunk, chunk_length sz n]
theorem chunk_cells (sz : Nat) (hsz : sz ≠ 0) : ∀ (n : Nat) (cs : List AV), n * sz ≤ cs.length → (chunk sz n cs).flatMap AV.cells = cs.take (n * sz) ∧ ∀ e, e ∈ chunk sz n cs → e.cells.length = sz
  | 0, cs, _ => by simp [chunk]
  | n + 1, cs, h => by
    rw [Nat.succ_mul] at h
    obtain ⟨h1, h2⟩ := chunk_cells sz hsz n (cs.drop sz) (by simp; omega)
    have hd : (chunkHd sz cs).cells = cs.take sz := by
      unfold chunkHd
      split
      · cases cs with
        | nil => simp at h
        | cons c cs => rw [chunk1_cells]; simp
      · rfl
    have hl : (cs.take sz).length = sz := by simp; omega
    refine ⟨?_, ?_⟩
    · simp only [chunk, List.flatMap_cons]
      rw [hd, h1, Nat.succ_mul, Nat.add_comm, ← List.take_add]
    · intro e he
      simp only [chunk, List.mem_cons] at he
      rcases he with rfl | he
      · rw [hd, hl]
      · exact h2 e he

section
variable {P : Program} {ty : TypeId} {ρ : Operand → Value} {κ : Kap} {s : St} {w : World} (hs : Sim κ s w)
include hs

theorem gives_nilCheck {v : AV} {x : Operand} (hx : VR κ (s.depth + 1) (v.pub s.depth) (ρ x)) (hn : isNil v = some false) : Gives P (.nilCheck x) ty ρ κ s w v s := by
  refine gives_same hs (ρ x) (fun dst pos after guard => ?_) hx
  generalize hy : ρ x = y at hx
  generalize hv : v.pub s.depth = v' at hx
  have hn' : isNil v' = some false := by
    rw [← hv]
    cases v with
    | sl sz es g => cases g <;> first | exact hn | (simp [isNil] at hn)
    | _ => exact hn
  cases hx <;> simp [isNil] at hn' <;> simp [execOp, hy]

omit hs in
theorem isNil_pub {v : AV} (d : Nat) : isNil (v.pub d) = isNil v := by
  cases v with
  | sl sz es g => cases g <;> rfl
  | _ => rfl
omit hs in
theorem kindOK_pub {e : EK} {v : AV} (d : Nat) : kindOK e (v.pub d) = kindOK e v := by
  cases v <;> cases e <;> rfl

/-- What a type's values look like, by kind. -/
def okEK (e : EK) (d : TypeDesc) : Bool :=
  match e, d with
  | .bool, .bool | .slice, .slice _ | .ptr, .pointer _ | .func, .func .. | .map, .map .. | .iface, .interface _ => true
  | _, _ => false

omit hs in
theorem equal_succ (t : TypeId) (X Y : Value) : Op.equal t X Y = Op.equalIn (9999 + 1) t X Y := rfl

/-- The forms in which two values of a kind are compared. -/
inductive EqForm : TypeDesc → Value → Value → Bool → Prop
  | bool (a b : Bool) : EqForm .bool (.bool a) (.bool b) (a == b)
  | slice1 (el : TypeId) (l c : Nat) (B : Option Addr) (l' c' : Nat) : EqForm (.slice el) (.slice none l c) (.slice B l' c') B.isNone
  | slice2 (el : TypeId) (a : Addr) (l c l' c' : Nat) : EqForm (.slice el) (.slice (some a) l c) (.slice none l' c') false
  | ptr1 (el : TypeId) (B : Option Addr) : EqForm (.pointer el) (.pointer none) (.pointer B) B.isNone
  | ptr2 (el : TypeId) (a : Addr) : EqForm (.pointer el) (.pointer (some a)) (.pointer none) false
  | func0 (p r : Array TypeId) (v : Bool) : EqForm (.func p r v) .nilFunc .nilFunc true
  | func1 (p r : Array TypeId) (v : Bool) (f : Fn) (x y : Array Value) : EqForm (.func p r v) .nilFunc (.func f x y) false
  | func2 (p r : Array TypeId) (v : Bool) (f : Fn) (x y : Array Value) : EqForm (.func p r v) (.func f x y) .nilFunc false
  | map1 (k el : TypeId) (B : Option Nat) : EqForm (.map k el) (.map none) (.map B) B.isNone
  | map2 (k el : TypeId) (a : Nat) : EqForm (.map k el) (.map (some a)) (.map none) false
  | iface1 (ms : Array (String × TypeId)) (t : TypeId) (v : Value) : EqForm (.interface ms) .nilIface (.iface t v) false
  | iface2 (ms : Array (String × TypeId)) (t : TypeId) (v : Value) : EqForm (.interface ms) (.iface t v) .nilIface false

omit hs in
theorem EqForm.run {t : TypeId} {d : TypeDesc} (ht : P.underlying t = some d) {X Y : Value} {b : Bool} (h : EqForm d X Y b) : (Op.equal t X Y).run P w = .ok b w := by
  rw [equal_succ]
  generalize (9999 : Nat) = n
  cases h <;> simp only [Op.equalIn, Sem.run_bind, run_underlying ht, Result.andThen_ok, Sem.run_pure]
omit hs in
theorem EqForm.guard {d : TypeDesc} {X Y : Value} {b : Bool} (h : EqForm d X Y b) (op : BinOp) (t : TypeId) (x y : Operand) : (eqGuard op t x y X Y).run P w = .ok () w := by
  cases h <;> unfold eqGuard <;> cases op <;> rfl
omit hs in
theorem EqForm.gives {t yt : TypeId} {d : TypeDesc} (ht : P.underlying t = some d) {x y : Operand} {b : Bool} (neg : Bool) (h : EqForm d (ρ x) (ρ y) b) (dst : Option Tmp) (pos : String) (after : Array Edge) (guard : Option (Nat × Bool)) :
    (execOp ρ ⟨dst, .binOp (if neg then .neq else .eql) t x y yt, ty, pos, after, guard⟩).run P w = .ok (.value (.bool (bif neg then !b else b))) w := by
  have h1 := h.run (w := w) ht
  have h2 := h.guard (P := P) (w := w) (if neg then .neq else .eql) t x y
  have hb : ∀ (op : BinOp), op = .eql ∨ op = .neq → binOp op t (ρ x) (ρ y) = match op with
      | .eql => (do pure (.bool (← Op.equal t (ρ x) (ρ y))) : Sem Value)
      | _ => (do pure (.bool (!(← Op.equal t (ρ x) (ρ y)))) : Sem Value) := by
    intro op ho
    generalize ρ x = X at h
    generalize ρ y = Y at h
    rcases ho with rfl | rfl <;> cases h <;> rfl
  cases neg
  · have hb' := hb .eql (.inl rfl)
    simp only [Bool.false_eq_true, ↓reduceIte] at h2 ⊢
    simp only [execOp, Sem.run_bind, h2, Result.andThen_ok, hb', h1, Sem.run_pure, cond_false]
  · have hb' := hb .neq (.inr rfl)
    simp only [↓reduceIte] at h2 ⊢
    simp only [execOp, Sem.run_bind, h2, Result.andThen_ok, hb', h1, Sem.run_pure, cond_true]

omit hs in
theorem eqV_pub (e : EK) (v u : AV) (d : Nat) : eqV e (v.pub d) (u.pub d) = eqV e v u := by
  cases e with
  | bool => cases v <;> cases u <;> rfl
  | agg => cases v <;> cases u <;> rfl
  | _ => simp only [eqV, kindOK_pub, isNil_pub]

omit hs in
theorem slice_form {D : Nat} {v : AV} {X : Value} (h : VR κ D v X) (hk : kindOK .slice v = true) : ∃ A l c, X = .slice A l c ∧ ∀ b, isNil v = some b → A.isNone = b := by
  cases v <;> simp [kindOK] at hk
  case sl sz es g =>
    rcases h.sl_inv with ⟨rfl, rfl, rfl⟩ | ⟨a, cap, vals, rfl, hg, _⟩
    · exact ⟨_, _, _, rfl, fun b hb => by simpa [isNil] using hb⟩
    · refine ⟨_, _, _, rfl, fun b hb => ?_⟩
      cases g <;> simp [isNil, GrOK] at hb hg <;> simp [← hb]
  case msl a off len cap sz =>
    cases h
    exact ⟨_, _, _, rfl, fun b hb => by simpa [isNil] using hb⟩
omit hs in
theorem ptr_form {D : Nat} {v : AV} {X : Value} (h : VR κ D v X) (hk : kindOK .ptr v = true) : ∃ A, X = .pointer A ∧ ∀ b, isNil v = some b → A.isNone = b := by
  cases h <;> simp [kindOK] at hk <;> exact ⟨_, rfl, fun b hb => by simpa [isNil] using hb⟩
omit hs in
theorem func_form {D : Nat} {v : AV} {X : Value} (h : VR κ D v X) (hk : kindOK .func v = true) : (X = .nilFunc ∧ ∀ b, isNil v = some b → b = true) ∨ ((∃ f x y, X = .func f x y) ∧ ∀ b, isNil v = some b → b = false) := by
  cases h <;> simp [kindOK] at hk
  · exact .inr ⟨⟨_, _, _, rfl⟩, fun b hb => by simpa [isNil] using hb.symm⟩
  · exact .inl ⟨rfl, fun b hb => by simpa [isNil] using hb.symm⟩
omit hs in
theorem map_form {D : Nat} {v : AV} {X : Value} (h : VR κ D v X) (hk : kindOK .map v = true) : ∃ A, X = .map A ∧ ∀ b, isNil v = some b → A.isNone = b := by
  cases h <;> simp [kindOK] at hk <;> exact ⟨_, rfl, fun b hb => by simpa [isNil] using hb⟩
omit hs in
theorem iface_form {D : Nat} {v : AV} {X : Value} (h : VR κ D v X) (hk : kindOK .iface v = true) : (X = .nilIface ∧ ∀ b, isNil v = some b → b = true) ∨ ((∃ t x, X = .iface t x) ∧ ∀ b, isNil v = some b → b = false) := by
  cases h <;> simp [kindOK] at hk
  · exact .inr ⟨⟨_, _, rfl⟩, fun b hb => by simpa [isNil] using hb.symm⟩
  · exact .inl ⟨rfl, fun b hb => by simpa [isNil] using hb.symm⟩

omit hs in
theorem eq_form {D : Nat} {e : EK} {v u : AV} {X Y : Value} {d : TypeDesc} {b : Bool} (hd : okEK e d = true) (hx : VR κ D v X) (hy : VR κ D u Y) (h : eqV e v u = some b) : EqForm d X Y b := by
  have main : e ≠ .bool → e ≠ .agg → ∃ p q, kindOK e v = true ∧ kindOK e u = true ∧ isNil v = some p ∧ isNil u = some q ∧ (p = true ∧ b = q ∧ ¬ (q = true ∧ e = .iface) ∨ p = false ∧ q = true ∧ b = false) := by
    intro h1 h2
    have h' : (bif kindOK e v && kindOK e u then
        match isNil v, isNil u with
        | some true, some b => bif b && decide (e = .iface) then none else some b
        | some false, some true => some false
        | _, _ => none
      else none) = some b := by
      cases e <;> first | exact absurd rfl h1 | exact absurd rfl h2 | exact h
    cases hk : (kindOK e v && kindOK e u) with
    | false => rw [hk] at h'; simp at h'
    | true =>
      rw [hk, cond_true] at h'
      rw [Bool.and_eq_true] at hk
      cases hv : isNil v with
      | none => rw [hv] at h'; simp at h'
      | some p =>
        cases hu : isNil u with
        | none => rw [hv, hu] at h'; cases p <;> simp at h'
        | some q =>
          rw [hv, hu] at h'
          refine ⟨p, q, hk.1, hk.2, rfl, rfl, ?_⟩
          cases p
          · cases q
            · simp at h'
            · right; simp at h'; exact ⟨rfl, rfl, h'⟩
          · left
            simp only at h'
            cases hq : (q && decide (e = .iface)) with
            | true => rw [hq] at h'; simp at h'
            | false => rw [hq] at h'; simp at h' hq; exact ⟨rfl, h'.symm, by simpa using hq⟩
  cases e
  case bool =>
    have hd' : d = .bool := by cases d <;> simp [okEK] at hd ⊢
    subst hd'
    cases v <;> cases u <;> simp [eqV] at h
    subst h
    rw [hx.bool_inv, hy.bool_inv]
    exact .bool _ _
  case agg => cases d <;> simp [okEK] at hd
  case slice =>
    obtain ⟨el, rfl⟩ : ∃ el, d = .slice el := by cases d <;> simp [okEK] at hd ⊢
    obtain ⟨p, q, k1, k2, n1, n2, hb⟩ := main (by simp) (by simp)
    obtain ⟨A, l, c, rfl, hA⟩ := slice_form hx k1
    obtain ⟨B, l', c', rfl, hB⟩ := slice_form hy k2
    have hA := hA p n1
    have hB := hB q n2
    rcases hb with ⟨rfl, rfl, _⟩ | ⟨rfl, rfl, rfl⟩
    · cases A <;> simp at hA; rw [← hB]; exact .slice1 ..
    · cases A <;> simp at hA; cases B <;> simp at hB; exact .slice2 ..
  case ptr =>
    obtain ⟨el, rfl⟩ : ∃ el, d = .pointer el := by cases d <;> simp [okEK] at hd ⊢
    obtain ⟨p, q, k1, k2, n1, n2, hb⟩ := main (by simp) (by simp)
    obtain ⟨A, rfl, hA⟩ := ptr_form hx k1
    obtain ⟨B, rfl, hB⟩ := ptr_form hy k2
    have hA := hA p n1
    have hB := hB q n2
    rcases hb with ⟨rfl, rfl, _⟩ | ⟨rfl, rfl, rfl⟩
    · cases A <;> simp at hA; rw [← hB]; exact .ptr1 ..
    · cases A <;> simp at hA; cases B <;> simp at hB; exact .ptr2 ..
  case map =>
    obtain ⟨k, el, rfl⟩ : ∃ k el, d = .map k el := by cases d <;> simp [okEK] at hd ⊢
    obtain ⟨p, q, k1, k2, n1, n2, hb⟩ := main (by simp) (by simp)
    obtain ⟨A, rfl, hA⟩ := map_form hx k1
    obtain ⟨B, rfl, hB⟩ := map_form hy k2
    have hA := hA p n1
    have hB := hB q n2
    rcases hb with ⟨rfl, rfl, _⟩ | ⟨rfl, rfl, rfl⟩
    · cases A <;> simp at hA; rw [← hB]; exact .map1 ..
    · cases A <;> simp at hA; cases B <;> simp at hB; exact .map2 ..
  case func =>
    obtain ⟨ps, rs, vv, rfl⟩ : ∃ ps rs vv, d = .func ps rs vv := by cases d <;> simp [okEK] at hd ⊢
    obtain ⟨p, q, k1, k2, n1, n2, hb⟩ := main (by simp) (by simp)
    rcases func_form hx k1 with ⟨rfl, hA⟩ | ⟨⟨f, x, y, rfl⟩, hA⟩ <;> rcases func_form hy k2 with ⟨rfl, hB⟩ | ⟨⟨f', x', y', rfl⟩, hB⟩ <;> have hA := hA p n1 <;> have hB := hB q n2 <;> subst hA hB <;> simp at hb <;> try subst hb
    · exact .func0 ..
    · exact .func1 ..
    · exact .func2 ..
  case iface =>
    obtain ⟨ms, rfl⟩ : ∃ ms, d = .interface ms := by cases d <;> simp [okEK] at hd ⊢
    obtain ⟨p, q, k1, k2, n1, n2, hb⟩ := main (by simp) (by simp)
    rcases iface_form hx k1 with ⟨rfl, hA⟩ | ⟨⟨f, x, rfl⟩, hA⟩ <;> rcases iface_form hy k2 with ⟨rfl, hB⟩ | ⟨⟨f', x', rfl⟩, hB⟩ <;> have hA := hA p n1 <;> have hB := hB q n2 <;> subst hA hB <;> simp at hb <;> try subst hb
    · exact .iface1 ..
    · exact .iface2 ..

theorem gives_nilI {neg : Bool} {v : AV} {t yt : TypeId} {x : Operand} {ms : Array (String × TypeId)} {op : BinOp} {z : AV} (hop : op = if neg then .neq else .eql) (ht : P.underlying t = some (.interface ms)) (hx : VR κ (s.depth + 1) (v.pub s.depth) (ρ x)) (hc : ρ (.const .nilIface) = .nilIface) (h : nilIV neg v = some z) : Gives P (.binOp op t x (.const .nilIface) yt) ty ρ κ s w z s := by
  cases v <;> simp [nilIV] at h
  case iface t' v' =>
    subst h
    obtain ⟨y, ey, hy⟩ := VR.iface_inv (t := t') (v := v') hx
    have hf : EqForm (.interface ms) (ρ x) (ρ (.const .nilIface)) false := by rw [ey, hc]; exact .iface2 ms t' y
    have := gives_same (P := P) (ty := ty) (o := .binOp op t x (.const .nilIface) yt) (ρ := ρ) hs (v := .bool neg) _ (fun dst pos after guard => by
      have := hf.gives (ty := ty) (w := w) (yt := yt) ht neg dst pos after guard
      rw [hop]
      exact this) (by cases neg <;> exact .bool _)
    exact this
  case nili =>
    subst h
    have ex : ρ x = .nilIface := by
      simp only [AV.pub] at hx
      generalize ρ x = q at hx
      cases hx; rfl
    refine gives_same hs (.bool (!neg)) (fun dst pos after guard => ?_) (.bool _)
    subst hop
    have e1 : (Op.equal t .nilIface .nilIface).run P w = .ok true w := by
      rw [equal_succ]
      generalize (9999 : Nat) = n
      simp only [Op.equalIn, Sem.run_bind, run_underlying ht, Result.andThen_ok, Sem.run_pure]
    cases neg
    · have e2 : (eqGuard .eql t x (.const .nilIface) .nilIface .nilIface).run P w = .ok () w := by
        unfold eqGuard
        cases x <;> rfl
      have hb : binOp .eql t .nilIface .nilIface = (do pure (.bool (← Op.equal t .nilIface .nilIface)) : Sem Value) := rfl
      simp only [execOp, Bool.false_eq_true, ↓reduceIte, ex, hc, Sem.run_bind, e2, Result.andThen_ok, hb, e1, Sem.run_pure, Bool.not_false]
    · have e2 : (eqGuard .neq t x (.const .nilIface) .nilIface .nilIface).run P w = .ok () w := by
        unfold eqGuard
        cases x <;> rfl
      have hb : binOp .neq t .nilIface .nilIface = (do pure (.bool (!(← Op.equal t .nilIface .nilIface))) : Sem Value) := rfl
      simp only [execOp, ↓reduceIte, ex, hc, Sem.run_bind, e2, Result.andThen_ok, hb, e1, Sem.run_pure, Bool.not_true]

theorem gives_eq {e : EK} {b neg : Bool} {v u : AV} {t yt : TypeId} {x y : Operand} {d : TypeDesc} {op : BinOp} (hop : op = if neg then .neq else .eql) (ht : P.underlying t = some d) (hd : okEK e d = true)
    (hx : VR κ (s.depth + 1) (v.pub s.depth) (ρ x)) (hy : VR κ (s.depth + 1) (u.pub s.depth) (ρ y)) (h : eqV e v u = some b) : Gives P (.binOp op t x y yt) ty ρ κ s w (.bool (bif neg then !b else b)) s := by
  subst hop
  exact gives_same hs _ ((eq_form hd hx hy (by rw [eqV_pub]; exact h)).gives ht neg) (.bool _)
end
end Go.Ab
end
section
/- Each operation of the abstract side is the machine's (8): what is made, stored, frozen, copied, appended. -/
namespace Go.Ab
set_option linter.unusedSimpArgs false

theorem madeCells_zero (z : List AV) (v : Array Value) (hz : ∀ κ D, VRs κ D z v.toList) (n : Nat) : ∀ κ D, VRs κ D (List.replicate n z).flatten (madeCells v (n * z.length)).toList := by
  intro κ D
  have hl : v.size = z.length := by simpa using (hz κ D).1
  refine ⟨by simp [madeCells], fun j c x hc hx => ?_⟩
  simp only [madeCells, Array.toList_map, List.getElem?_map] at hx
  by_cases h0 : z.length = 0
  · have : z = [] := List.eq_nil_of_length_eq_zero h0
    subst this
    simp at hc
  · have hj : j < n * z.length := by
      have := (List.getElem?_eq_some_iff.1 hc).1
      simpa using this
    have hr : (Array.range (n * z.length)).toList[j]? = some j := by simp [hj]
    rw [hr] at hx
    simp only [Option.map_some, Option.some.injEq] at hx
    have hm : j % z.length < z.length := Nat.mod_lt _ (by omega)
    have hc' : z[j % z.length]? = some c := by
      have : ∀ (n j : Nat), j < n * z.length → (List.replicate n z).flatten[j]? = z[j % z.length]? := by
        intro n
        induction n with
        | zero => intro j hj; simp at hj
        | succ n ih =>
          intro j hj
          rw [List.replicate_succ, List.flatten_cons]
          by_cases h1 : j < z.length
          · rw [List.getElem?_append_left h1, Nat.mod_eq_of_lt h1]
          · rw [List.getElem?_append_right (by omega), ih _ (by rw [Nat.succ_mul] at hj; omega), ← Nat.mod_eq_sub_mod (by omega)]
      rw [← this n j hj]
      exact hc
    have hx' : v.toList[j % z.length]? = some x := by
      have hlt : j % v.size < v.size := by rw [hl]; exact hm
      rw [← hx]
      simp only [hl] at hlt ⊢
      simp [hl, hm]
    exact (hz κ D).2 _ c x hc' hx'

section
variable {P : Program} {ty : TypeId} {ρ : Operand → Value} {κ : Kap} {s : St} {w : World} (hs : Sim κ s w)
include hs

theorem gives_makeSlice {E : Env} (hE : E.F = .not) {k : AV → St → Res} {r : Res} (hf : r ≠ .fail) {t el : TypeId} {z : List AV} {bytes : Nat} {l c : AV} {x y : Operand} (ht : P.underlying t = some (.slice el)) (hz : okZero P el z = true) (hsz : tySize P el = some z.length) (hby : (P.info? el).map (·.bytes) = some bytes) (hb0 : 0 < bytes)
    (hx : VR κ (s.depth + 1) (l.pub s.depth) (ρ x)) (hy : VR κ (s.depth + 1) (c.pub s.depth) (ρ y)) (hr : makeV E s k z bytes l c = r) : ∃ v' s', k v' s' = r ∧ Gives P (.makeSlice t x y) ty ρ κ s w v' s' := by
  unfold makeV at hr
  cases hl : asNat l with
  | none => rw [hl] at hr; exact absurd hr.symm hf
  | some m =>
    cases hc : asNat c with
    | none => rw [hl, hc] at hr; exact absurd hr.symm hf
    | some n =>
      rw [hl, hc] at hr
      simp only [hE, Force.not] at hr
      obtain ⟨hb, hr1⟩ := bif_cases hr hf
      rw [Bool.and_eq_true] at hb
      have h1 := Nat.le_of_ble_eq_true hb.1
      have h2 := Nat.le_of_ble_eq_true hb.2
      obtain ⟨kl, rfl⟩ := asNat_inv hl
      obtain ⟨kc, rfl⟩ := asNat_inv hc
      obtain ⟨v, e, hv, _, i, hi, hiz⟩ := run_zero hz w
      have hisz : i.size = z.length := by simpa [tySize, hi] using hsz
      have hib : i.bytes = bytes := by simpa [hi] using hby
      have hn64 : (n : Int) ≤ 9223372036854775807 := by
        have : n * 1 ≤ n * bytes := Nat.mul_le_mul_left _ hb0
        omega
      have hmul : (i.bytes : Int) * (n : Int) ≤ 281474976710656 := by
        have : (i.bytes : Int) * (n : Int) = ((n * bytes : Nat) : Int) := by rw [hib, Nat.mul_comm]; simp
        omega
      have run := run_make w t el i v ht hi hiz kl kc m n (by omega) (by omega) hmul hn64
      simp only [Int.toNat_natCast, hisz] at run
      obtain ⟨κ', g1, g2, g3, g4⟩ := hs.allocCells (List.replicate n z).flatten (madeCells v.cells (n * z.length)) el (madeCells_zero z v.cells hv n _ _) (w' := w.alloc (.cells (madeCells v.cells (n * z.length)) el)) rfl rfl rfl rfl
      refine ⟨_, _, hr1, .slice (some ⟨w.heap.size, 0, none⟩) m n, κ', _, .inl (fun _ _ _ _ => ?_), g2, g1, ?_⟩
      · simp [execOp, hx.int_inv, hy.int_inv, run]
      · simp only [AV.pub, Loc.pub]
        rw [← g3]
        exact .msl _ _ _ _ _ _ (Nat.lt_succ_self _) g4 h1

omit hs in
theorem all_cell {vs : List AV} (h : vs.all AV.isCell = true) {D : Nat} {xs : List Value} (hv : VRs κ D vs xs) : ∀ x ∈ xs, x.oneCell' = true := by
  intro x hx
  obtain ⟨j, hj⟩ := List.mem_iff_getElem?.1 hx
  have hlt := (List.getElem?_eq_some_iff.1 hj).1
  have hlt2 : j < vs.length := by rw [← hv.1]; exact hlt
  have hc : vs[j]? = some vs[j] := List.getElem?_eq_getElem hlt2
  exact (hv.2 j _ x hc hj).oneCell (List.all_eq_true.1 h _ (List.mem_of_getElem? hc))

/-- The machine's store into an object's cells. -/
theorem run_storeObj {d i off : Nat} {cs : List AV} {xs : List Value} (hg : s.get (.g d i) = some (.cells cs)) (ho : off + xs.length ≤ cs.length) (h1 : ∀ x ∈ xs, x.oneCell' = true) :
    (storeCells ⟨κ.loc d i, off, none⟩ xs).run P w = .ok () (w.setCells (κ.loc d i) off xs) := by
  obtain ⟨⟨C, e, fz, c1, c2, c3⟩, c4⟩ := hs.obj d i _ hg
  have hCl : C.size = cs.length := by simpa using c3.1
  have := run_storeCells_cells (P := P) (κ.loc d i) off xs 0 w (fun j hj => by rw [cell_of_heap c1]; simp; omega) (fun j hj => ?_) h1
  · simpa using this
  · have hu := c2 (off + 0 + j) (by omega)
    simp only [World.frozen?, c1]
    rw [Bool.and_eq_false_iff]
    by_cases hlo : fz.1 ≤ off + 0 + j
    · right; simp only [decide_eq_false_iff_not]; exact fun h => hu ⟨hlo, h⟩
    · left; simpa using hlo

omit hs in
/-- Values that may go into an object: the running frame's own takes all, an elder one what holds no reference. -/
theorem store_vals {a : Loc} {d i : Nat} (ha : a.pub s.depth = .g d i) {vs : List AV} {xs : List Value} (hv : VRs κ (s.depth + 1) vs xs) (h : s.takes a vs = true) : VRs κ (d + 1) vs xs := by
  unfold St.takes at h
  rcases Bool.or_eq_true _ _ ▸ h with h | h2
  rcases Bool.or_eq_true _ _ ▸ h with h1 | h1
  · have : d = s.depth := by
      cases a with
      | l j => simp [Loc.pub] at ha; exact ha.1.symm
      | g d' j => simp [Loc.pub] at ha; simp [St.isOwn] at h1; omega
    subst this
    exact hv
  · exact hv.refless h1 _ (fun _ _ h => h)
  · cases a with
    | l j => cases h2
    | g e j =>
      simp only [Loc.pub, Loc.g.injEq] at ha
      obtain ⟨rfl, rfl⟩ := ha
      exact ⟨hv.1, fun j c x hc hx => (hv.2 j c x hc hx).lower (lowL_get h2 hc)⟩

theorem gives_store {E : Env} (hE : E.F = .not) {k : AV → St → Res} {r : Res} (hf : r ≠ .fail) {t : TypeId} {n : Nat} {x y : Operand} {v u : AV} (hn : tySize P t = some n) (hx : VR κ (s.depth + 1) (v.pub s.depth) (ρ x)) (hy : VR κ (s.depth + 1) u (ρ y))
    (hr : storeOp E s k n v u = r) : ∃ v' s', k v' s' = r ∧ Gives P (.store t x y) ty ρ κ s w v' s' := by
  cases v <;> simp only [AV.pub] at hx <;> simp only [storeOp] at hr <;> try exact absurd hr.symm hf
  rename_i a off
  obtain ⟨hb, hr1⟩ := bif_cases hr hf
  rw [Bool.and_eq_true] at hb
  have hlen := Nat.eq_of_beq_eq_true hb.2
  have hcells := hy.cells hb.1
  unfold storeV at hr1
  rw [← St.get_pub] at hr1
  cases ha : a.pub s.depth with
  | l i => cases a <;> simp [Loc.pub] at ha
  | g d i =>
    rw [ha] at hr1 hx
    obtain ⟨e, hd, hi⟩ := hx.ref_inv
    cases hg : s.get (.g d i) with
    | none => rw [hg] at hr1; exact absurd hr1.symm hf
    | some o =>
      rw [hg] at hr1
      cases o <;> try exact absurd hr1.symm hf
      rename_i cs
      obtain ⟨hb2, hr2⟩ := bif_cases hr1 hf
      rw [Bool.and_eq_true, Bool.and_eq_true] at hb2
      have h1 := Nat.le_of_ble_eq_true hb2.1.1
      simp only [hE, Force.not] at hr2
      rw [← St.set_pub, ha] at hr2
      cases hset : s.set (.g d i) (.cells (splice cs off u.cells)) with
      | none => rw [hset] at hr2; exact absurd hr2.symm hf
      | some s' =>
        rw [hset] at hr2
        have hxl : (ρ y).cells.toList.length = u.cells.length := hcells.1
        have hv2 := store_vals ha hcells hb2.1.2
        obtain ⟨g1, g2⟩ := hs.store hg hset hv2 h1
        have hrun := run_storeObj (P := P) hs hg (off := off) (xs := (ρ y).cells.toList) (by omega) (all_cell hb2.2 hcells)
        have hsz : (ρ y).cells.size = n := by rw [← Array.length_toList, hxl, hlen]
        refine ⟨_, _, hr2, undef, κ, _, .inr ⟨fun _ _ _ _ => ?_, rfl⟩, g2, g1, .dead _⟩
        simp [execOp, Instr.storeAt, e, Instr.sureAddr, storeVar, run_sizeOfB hn, hsz, hrun]

/-- Elements of a slice: where they lie. -/
theorem elems_cells {v : AV} {X : Value} {sz : Nat} {es : List AV} (hv : VR κ (s.depth + 1) (v.pub s.depth) X) (h : elemsOf s v = some (sz, es)) :
    ((∃ bs a, v = .str bs ∧ X = .string a ∧ a.data.toList.map UInt8.toNat = bs ∧ sz = 1 ∧ es = bs.map fun b => .int .u8 (b : Nat)) ∨
     (∃ A c, X = .slice A es.length c ∧ (A = none → es = []) ∧ ∀ a, A = some a → Reads κ (s.depth + 1) w a (es.flatMap AV.cells))) ∧
    AV.reflessL es = true ∧ ∀ e, e ∈ es → e.cells.length = sz := by
  cases v
  all_goals first | (simp [elemsOf] at h; done) | skip
  case str bs =>
    simp only [elemsOf, Option.some.injEq, Prod.mk.injEq] at h
    obtain ⟨rfl, rfl⟩ := h
    obtain ⟨a, rfl, ha⟩ := hv.str_inv
    refine ⟨.inl ⟨bs, a, rfl, rfl, ha, rfl, rfl⟩, reflessL_iff.2 (fun c hc => ?_), fun e he => ?_⟩
    · obtain ⟨b, _, rfl⟩ := List.mem_map.1 hc; rfl
    · obtain ⟨b, _, rfl⟩ := List.mem_map.1 he; rfl
  case sl z l g =>
    have key : (z = sz ∧ l = es) ∧ (AV.reflessL es = true ∨ ∀ a, g ≠ .buf a) := by
      cases g with
      | buf a =>
        simp only [elemsOf] at h
        split at h
        · rename_i hr
          simp only [Option.some.injEq, Prod.mk.injEq] at h
          exact ⟨h, .inl (h.2 ▸ hr)⟩
        · cases h
      | nil => simp only [elemsOf, Option.some.injEq, Prod.mk.injEq] at h; exact ⟨h, .inr fun a e => by cases e⟩
      | exact => simp only [elemsOf, Option.some.injEq, Prod.mk.injEq] at h; exact ⟨h, .inr fun a e => by cases e⟩
      | any => simp only [elemsOf, Option.some.injEq, Prod.mk.injEq] at h; exact ⟨h, .inr fun a e => by cases e⟩
    obtain ⟨⟨rfl, rfl⟩, hkey⟩ := key
    rcases hv.sl_inv with ⟨rfl, _, rfl⟩ | ⟨a, cap, vals, rfl, _, _, _, h4, h5, h6, h7⟩
    · exact ⟨.inr ⟨none, 0, rfl, fun _ => rfl, fun a ha => (by cases ha)⟩, rfl, fun e he => (by simp at he)⟩
    · refine ⟨.inr ⟨some a, cap, rfl, fun ha => (by cases ha), fun a' ha => ?_⟩, ?_, h4⟩
      rotate_left
      · rcases hkey with hk | hk
        · exact hk
        · exact reflessL_iff.2 (h5.left fun d j e => by cases g <;> first | exact hk _ rfl | cases e)
      cases ha
      exact ⟨vals, fun j hj => (hs.froz _ _ (h6 j hj)).2, h7⟩
  case msl a off len cap z =>
    simp only [elemsOf] at h
    rw [← St.get_pub] at h
    cases ha : a.pub s.depth with
    | l i => cases a <;> simp [Loc.pub] at ha
    | g d i =>
      rw [ha] at h
      simp only [AV.pub, ha] at hv
      obtain ⟨rfl, hd, hi, _⟩ := hv.msl_inv
      cases hg : s.get (.g d i) with
      | none => rw [hg] at h; cases h
      | some o =>
        rw [hg] at h
        cases o <;> first | (simp at h; done) | skip
        rename_i cs
        simp only at h
        split at h
        · rename_i hc
          simp only [Option.some.injEq, Prod.mk.injEq] at h
          obtain ⟨rfl, rfl⟩ := h
          simp only [Bool.and_eq_true, Bool.not_eq_true'] at hc
          have hz : z ≠ 0 := fun h0 => by rw [h0] at hc; simp at hc
          have hle := Nat.le_of_ble_eq_true hc.1.2
          obtain ⟨q1, q2⟩ := chunk_cells z hz len (cs.drop off) (by simp; omega)
          refine ⟨.inr ⟨some ⟨κ.loc d i, off, none⟩, cap, (by rw [chunk_length]), fun ha => (by cases ha), fun a' ha => ?_⟩, hc.1.1, q2⟩
          cases ha
          rw [q1]
          obtain ⟨vals, r1, r2⟩ := reads_up (reads_obj hs hg off) (show d + 1 ≤ s.depth + 1 by omega)
          refine ⟨vals, fun j hj => r1 j (by simp at hj ⊢; omega), fun j c hj => r2 j c ?_⟩
          rw [List.getElem?_take] at hj
          split at hj
          · exact hj
          · cases hj
        · cases h
end
end Go.Ab
end
