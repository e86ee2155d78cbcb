/- Each operation of the abstract side is the machine's (1): what only reckons, and what reads. -/
import Derived.Test.YtnafklimohmfkaaDoorMatch
import Derived.Laws.Strings
namespace Go.Ab
set_option linter.unusedSimpArgs false

theorem bytes_inj {a b : List UInt8} (h : a.map UInt8.toNat = b.map UInt8.toNat) : a = b := by
  have := List.map_inj_right (f := UInt8.toNat) (l := a) (l' := b) (fun x y hxy => UInt8.toNat_inj.1 hxy)
  exact this.1 h
theorem strEq_bytes (a b : List UInt8) : (a.map UInt8.toNat == b.map UInt8.toNat) = (a == b) := by
  rw [Bool.eq_iff_iff]
  simp only [beq_iff_eq]
  exact ⟨bytes_inj, fun h => by rw [h]⟩
theorem strLess_bytes : ∀ (a b : List UInt8), strLess (a.map UInt8.toNat) (b.map UInt8.toNat) = Op.bytesLess a b
  | _, [] => by simp [strLess, Op.bytesLess]
  | [], _ :: _ => by simp [strLess, Op.bytesLess]
  | a :: x, b :: y => by
    simp only [List.map_cons, strLess, Op.bytesLess, strLess_bytes x y]
    have h1 : Nat.blt a.toNat b.toNat = decide (a < b) := by
      rw [Bool.eq_iff_iff]; simp [Nat.blt_eq, UInt8.lt_iff_toNat_lt]
    have h2 : Nat.beq a.toNat b.toNat = (a == b) := by
      rw [Bool.eq_iff_iff]; simp [Nat.beq_eq, UInt8.toNat_inj]
    rw [h1, h2]

/-- The machine's operation gives what the abstract one gave. -/
def Gives (P : Program) (o : Op) (ty : TypeId) (ρ : Operand → Value) (κ : Kap) (s : St) (w : World) (v : AV) (s' : St) : Prop :=
  ∃ x κ' w', ((∀ dst pos after guard, (execOp ρ ⟨dst, o, ty, pos, after, guard⟩).run P w = .ok (.value x) w') ∨ ((∀ dst pos after guard, (execOp ρ ⟨dst, o, ty, pos, after, guard⟩).run P w = .ok .skip w') ∧ x = undef)) ∧
    Ext κ s w κ' s' w' ∧ Sim κ' s' w' ∧ VR κ' (s.depth + 1) (v.pub s.depth) x

theorem gives_same {P : Program} {o : Op} {ty : TypeId} {ρ : Operand → Value} {κ : Kap} {s : St} {w : World} {v : AV} (hs : Sim κ s w) (x : Value)
    (h : ∀ dst pos after guard, (execOp ρ ⟨dst, o, ty, pos, after, guard⟩).run P w = .ok (.value x) w) (hx : VR κ (s.depth + 1) (v.pub s.depth) x) : Gives P o ty ρ κ s w v s :=
  ⟨x, κ, w, .inl h, .refl _ _ _, hs, hx⟩

section
variable {P : Program} {ty : TypeId} {ρ : Operand → Value} {κ : Kap} {s : St} {w : World} (hs : Sim κ s w)
include hs

theorem gives_move {v : AV} {x : Operand} (h : VR κ (s.depth + 1) (v.pub s.depth) (ρ x)) : Gives P (.move x) ty ρ κ s w v s :=
  gives_same hs _ (fun _ _ _ _ => by simp [execOp]) h
theorem gives_assign {v : AV} {x : Operand} (h : VR κ (s.depth + 1) (v.pub s.depth) (ρ x)) : Gives P (.assign x) ty ρ κ s w v s :=
  gives_same hs _ (fun _ _ _ _ => by simp [execOp]) h
theorem gives_pick {t : Bool} {a b : AV} {c x y : Operand} (hc : ρ c = .bool t) (h1 : VR κ (s.depth + 1) (a.pub s.depth) (ρ x)) (h2 : VR κ (s.depth + 1) (b.pub s.depth) (ρ y)) :
    Gives P (.pick c x y) ty ρ κ s w (bif t then a else b) s := by
  refine gives_same hs (if t then ρ x else ρ y) (fun _ _ _ _ => by simp [execOp, hc, asBool]) ?_
  cases t <;> assumption

theorem gives_bin_int {op : BinOp} {k : IntKind} {m n : Int} {t yt : TypeId} {x y : Operand} {v : AV} (hx : ρ x = .int k m) (hy : ρ y = .int k n) (h : intBin op k m n = some v) : Gives P (.binOp op t x y yt) ty ρ κ s w v s := by
  have key : ∃ z, (binOp op t (.int k m) (.int k n)).run P w = .ok z w ∧ VR κ (s.depth + 1) (v.pub s.depth) z := by
    cases op <;> simp only [intBin, Option.some.injEq, reduceCtorEq] at h
    case quo =>
      by_cases hn : n = 0
      · simp [hn] at h
      · simp only [hn, ↓reduceIte, Option.some.injEq] at h; subst h; exact ⟨_, by simp only [binOp, Op.intDiv, hn, ne_eq, not_true_eq_false, ↓reduceIte]; rfl, .int k _⟩
    case rem =>
      by_cases hn : n = 0
      · simp [hn] at h
      · simp only [hn, ↓reduceIte, Option.some.injEq] at h; subst h; exact ⟨_, by simp only [binOp, Op.intDiv, hn, ne_eq, not_true_eq_false, ↓reduceIte]; rfl, .int k _⟩
    case add => subst h; exact ⟨_, by simp only [binOp, Op.intArith, ne_eq, not_true_eq_false, ↓reduceIte]; rfl, .int k _⟩
    case sub => subst h; exact ⟨_, by simp only [binOp, Op.intArith, ne_eq, not_true_eq_false, ↓reduceIte]; rfl, .int k _⟩
    case mul => subst h; exact ⟨_, by simp only [binOp, Op.intArith, ne_eq, not_true_eq_false, ↓reduceIte]; rfl, .int k _⟩
    case and => subst h; exact ⟨_, by simp only [binOp, Op.intBits, ne_eq, not_true_eq_false, ↓reduceIte]; rfl, .int k _⟩
    case or => subst h; exact ⟨_, by simp only [binOp, Op.intBits, ne_eq, not_true_eq_false, ↓reduceIte]; rfl, .int k _⟩
    case xor => subst h; exact ⟨_, by simp only [binOp, Op.intBits, ne_eq, not_true_eq_false, ↓reduceIte]; rfl, .int k _⟩
    case andNot => subst h; exact ⟨_, by simp only [binOp, Op.intBits, ne_eq, not_true_eq_false, ↓reduceIte]; rfl, .int k _⟩
    all_goals (subst h; exact ⟨_, by simp only [binOp, Op.intCmp, ne_eq, not_true_eq_false, ↓reduceIte]; rfl, .bool _⟩)
  obtain ⟨z, hz, hv⟩ := key
  refine gives_same hs z (fun _ _ _ _ => ?_) hv
  have hg : (eqGuard op t x y (.int k m) (.int k n)).run P w = .ok () w := by
    unfold eqGuard
    split <;> rfl
  simp [execOp, hx, hy, hg, hz]

theorem gives_shift {op : BinOp} {k k' : IntKind} {m n : Int} {t yt : TypeId} {x y : Operand} {v : AV} (hx : ρ x = .int k m) (hy : ρ y = .int k' n) (ho : op = .shl ∨ op = .shr) (h : shiftV op k m n = some v) : Gives P (.binOp op t x y yt) ty ρ κ s w v s := by
  unfold shiftV at h
  split at h
  · cases h
  · rename_i hn
    rcases ho with rfl | rfl <;> simp only [Option.some.injEq] at h <;> subst h <;> exact gives_same hs _ (fun _ _ _ _ => by simp only [execOp, hx, hy, eqGuard, binOp, Op.shift, hn]; rfl) (.int k _)

theorem gives_un_neg {k : IntKind} {n : Int} {t : TypeId} {x : Operand} (hx : ρ x = .int k n) : Gives P (.unOp .neg t x) ty ρ κ s w (.int k (k.wrap (0 - n))) s :=
  gives_same hs _ (fun _ _ _ _ => by simp only [execOp, hx, Op.unary, Op.intArith]; rfl) (.int k _)
theorem gives_un_xor {k : IntKind} {n : Int} {t : TypeId} {x : Operand} (hx : ρ x = .int k n) : Gives P (.unOp .xor t x) ty ρ κ s w (.int k (k.wrap (BitVec.ofInt k.bits (if k.signed then -1 else k.max) ^^^ BitVec.ofInt k.bits n).toNat)) s :=
  gives_same hs _ (fun _ _ _ _ => by simp only [execOp, hx, Op.unary, Op.intBits]; rfl) (.int k _)
theorem gives_un_not {b : Bool} {t : TypeId} {x : Operand} (hx : ρ x = .bool b) : Gives P (.unOp .not t x) ty ρ κ s w (.bool (!b)) s :=
  gives_same hs _ (fun _ _ _ _ => by simp [execOp, hx, Op.unary]) (.bool _)

theorem gives_bin_str {op : BinOp} {as bs : List Nat} {t yt : TypeId} {x y : Operand} {v : AV} (hx : VR κ (s.depth + 1) (.str as) (ρ x)) (hy : VR κ (s.depth + 1) (.str bs) (ρ y)) (h : strBin op as bs = some v) : Gives P (.binOp op t x y yt) ty ρ κ s w v s := by
  obtain ⟨a, hx, ha⟩ := hx.str_inv
  obtain ⟨b, hy, hb⟩ := hy.str_inv
  have hea : (a.toList == b.toList) = (as == bs) := by rw [Go.ByteArray.toList_eq, Go.ByteArray.toList_eq, ← ha, ← hb, strEq_bytes]
  have hla : Op.bytesLess a.toList b.toList = strLess as bs := by rw [Go.ByteArray.toList_eq, Go.ByteArray.toList_eq, ← ha, ← hb, strLess_bytes]
  have key : ∃ z, (binOp op t (.string a) (.string b)).run P w = .ok z w ∧ VR κ (s.depth + 1) (v.pub s.depth) z := by
    cases op <;> simp only [strBin, Option.some.injEq, reduceCtorEq] at h
    case add =>
      split at h
      · rename_i hle
        simp only [Option.some.injEq] at h
        subst h
        have hl := Nat.le_of_ble_eq_true hle
        have hsa : a.size = as.length := by have := congrArg List.length ha; rw [List.length_map, Array.length_toList] at this; exact this
        have hsb : b.size = bs.length := by have := congrArg List.length hb; rw [List.length_map, Array.length_toList] at this; exact this
        refine ⟨.string (a ++ b), ?_, .str _ _ ?_⟩
        · have : ¬ (((a.size + b.size : Nat) : Int) > IntKind.i64.max) := by rw [hsa, hsb]; show ¬ _ > (9223372036854775807 : Int); omega
          simp only [binOp, Op.stringOp, this, ↓reduceIte]
          rfl
        · rw [← ha, ← hb, ← List.map_append]
          simp
      · cases h
    all_goals (subst h; refine ⟨_, by simp only [binOp, Op.stringOp, hea, hla]; rfl, ?_⟩; exact .bool _)
  obtain ⟨z, hz, hv⟩ := key
  refine gives_same hs z (fun _ _ _ _ => ?_) hv
  have hg : (eqGuard op t x y (.string a) (.string b)).run P w = .ok () w := by
    unfold eqGuard
    split <;> rfl
  simp [execOp, hx, hy, hg, hz]

theorem gives_convInt {k k' : IntKind} {n : Int} {src dst : TypeId} {x : Operand} {d : TypeDesc} (hsrc : P.underlying src = some d) (hdst : P.underlying dst = some (.int k)) (hx : ρ x = .int k' n) : Gives P (.convert src dst x) ty ρ κ s w (.int k (k.wrap n)) s :=
  gives_same hs _ (fun _ _ _ _ => by simp [execOp, convert, run_underlying hsrc, run_underlying hdst, hx, Conv.intToInt]) (.int k _)
theorem gives_convId {bs : List Nat} {src dst : TypeId} {x : Operand} {d : TypeDesc} (hsrc : P.underlying src = some d) (hdst : P.underlying dst = some .string) (hx : VR κ (s.depth + 1) (.str bs) (ρ x)) : Gives P (.convert src dst x) ty ρ κ s w (.str bs) s := by
  obtain ⟨a, hx', ha⟩ := hx.str_inv
  exact gives_same hs _ (fun _ _ _ _ => by simp [execOp, convert, run_underlying hsrc, run_underlying hdst, hx']) (.str _ _ ha)
theorem gives_mkIface {v : AV} {t : TypeId} {x : Operand} {d : TypeDesc} (ht : P.underlying t = some d) (hd : (d matches .interface _) = false) (hx : VR κ (s.depth + 1) (v.pub s.depth) (ρ x)) : Gives P (.makeInterface t x) ty ρ κ s w (.iface t (v.pub s.depth)) s :=
  gives_same hs (.iface t (ρ x)) (fun _ _ _ _ => by
    simp only [execOp, Instr.makeInterface, map_eq_pure_bind, Sem.run_bind, run_underlying ht, Result.andThen_ok]
    cases d <;> simp at hd ⊢) (.iface t _ _ hx)
theorem gives_extract {vs : List AV} {i : Nat} {x : Operand} {v : AV} (hx : VR κ (s.depth + 1) (.tup vs) (ρ x)) (hv : vs[i]? = some v) (hp : v.pub s.depth = v) : Gives P (.extract x i) ty ρ κ s w v s := by
  obtain ⟨xs, hx', hl, h⟩ := hx.tup_inv
  have hi := (List.getElem?_eq_some_iff.1 hv).1
  have hxi : xs[i]? = some xs[i] := List.getElem?_eq_getElem (by omega)
  exact gives_same hs xs[i] (fun _ _ _ _ => by simp [execOp, Instr.extract, hx', hxi]) (by rw [hp]; exact h i v _ hv hxi)
end
end Go.Ab
