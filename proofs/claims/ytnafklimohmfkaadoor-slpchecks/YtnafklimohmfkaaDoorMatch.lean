/- When abstract code is the machine's own: a test by computation. -/
import Derived.Test.YtnafklimohmfkaaDoorMem2
namespace Go.Ab
set_option linter.unusedSimpArgs false

def okNilSl : List AV → Gr → Value → Bool
  | [], .nil, .slice none 0 0 => true
  | _, _, _ => false
theorem okNilSl_sound {es : List AV} {g : Gr} {x : Value} (h : okNilSl es g x = true) : es = [] ∧ g = .nil ∧ x = .slice none 0 0 := by
  unfold okNilSl at h
  split at h
  · exact ⟨rfl, rfl, rfl⟩
  · cases h

def okNilp : Value → Bool
  | .pointer none => true
  | _ => false
theorem okNilp_sound {x : Value} (h : okNilp x = true) : x = .pointer none := by
  unfold okNilp at h
  split at h
  · rfl
  · cases h
def okNilm : Value → Bool
  | .map none => true
  | _ => false
theorem okNilm_sound {x : Value} (h : okNilm x = true) : x = .map none := by
  unfold okNilm at h
  split at h
  · rfl
  · cases h
mutual
def okVal : AV → Value → Bool
  | .bool a, .bool b => a == b
  | .int k a, .int k' b => decide (k = k') && a == b
  | .str bs, .string s => bs == s.data.toList.map UInt8.toNat
  | .sl _ es g, x => okNilSl es g x
  | .nilp, x => okNilp x
  | .nilf, .nilFunc => true
  | .nilmap, x => okNilm x
  | .nili, .nilIface => true
  | .agg cs, .agg xs => okVals cs xs.toList
  | .tup [], .tuple xs => xs.size == 0
  | _, _ => false
def okVals : List AV → List Value → Bool
  | [], [] => true
  | c :: cs, x :: xs => okVal c x && okVals cs xs
  | _, _ => false
end

mutual
theorem okVal_sound : ∀ (v : AV) (x : Value), okVal v x = true → (∀ κ D, VR κ D v x) ∧ v.refless = true
  | .bool a, x, h => by cases x <;> simp [okVal] at h; subst h; exact ⟨fun _ _ => .bool a, rfl⟩
  | .int k a, x, h => by cases x <;> simp [okVal] at h; obtain ⟨rfl, rfl⟩ := h; exact ⟨fun _ _ => .int k a, rfl⟩
  | .str bs, x, h => by cases x <;> simp [okVal] at h; exact ⟨fun _ _ => .str bs _ h.symm, rfl⟩
  | .sl sz es g, x, h => by
    simp only [okVal] at h
    obtain ⟨rfl, rfl, rfl⟩ := okNilSl_sound h
    exact ⟨fun _ _ => .slNil sz, rfl⟩
  | .nilp, x, h => by
    simp only [okVal] at h
    rw [okNilp_sound h]
    exact ⟨fun _ _ => .nilp, rfl⟩
  | .nilf, x, h => by cases x <;> simp [okVal] at h; exact ⟨fun _ _ => .nilf, rfl⟩
  | .nilmap, x, h => by
    simp only [okVal] at h
    rw [okNilm_sound h]
    exact ⟨fun _ _ => .nilmap, rfl⟩
  | .nili, x, h => by cases x <;> simp [okVal] at h; exact ⟨fun _ _ => .nili, rfl⟩
  | .agg cs, x, h => by
    cases x <;> simp [okVal] at h
    rename_i xs
    obtain ⟨h1, h2⟩ := okVals_sound cs xs.toList h
    exact ⟨fun κ D => by simpa using VR.agg cs xs.toList (h1 κ D).1 (h1 κ D).2, by simpa [AV.refless] using h2⟩
  | .tup cs, x, h => by
    cases cs with
    | nil =>
      cases x <;> simp [okVal] at h
      rename_i xs
      subst h
      exact ⟨fun κ D => .tup [] [] rfl (fun j c x hc => by simp at hc), rfl⟩
    | cons c cs => cases x <;> simp [okVal] at h
  | .dead, x, h => by cases x <;> simp [okVal] at h
  | .msl .., x, h => by cases x <;> simp [okVal] at h
  | .ref .., x, h => by cases x <;> simp [okVal] at h
  | .vptr .., x, h => by cases x <;> simp [okVal] at h
  | .fn .., x, h => by cases x <;> simp [okVal] at h
  | .map .., x, h => by cases x <;> simp [okVal] at h
  | .iface .., x, h => by cases x <;> simp [okVal] at h
theorem okVals_sound : ∀ (cs : List AV) (xs : List Value), okVals cs xs = true → (∀ κ D, VRs κ D cs xs) ∧ AV.reflessL cs = true
  | [], [], _ => ⟨fun κ D => .nil κ D, rfl⟩
  | [], x :: xs, h => by simp [okVals] at h
  | c :: cs, [], h => by simp [okVals] at h
  | c :: cs, x :: xs, h => by
    simp only [okVals, Bool.and_eq_true] at h
    obtain ⟨h1, h2⟩ := okVal_sound c x h.1
    obtain ⟨h3, h4⟩ := okVals_sound cs xs h.2
    exact ⟨fun κ D => .cons (h1 κ D) (h3 κ D), by simp [AV.reflessL, h2, h4]⟩
end

def okOpd : AOpd → Operand → Bool
  | .t n, .tmp m => n == m
  | .c v, .const x => okVal v x
  | .c (.fn f []), .func g => f == g
  | .g n, .global m => n == m
  | .at n _ _, .tmp m => n == m
  | _, _ => false
def okOpds : List AOpd → List Operand → Bool
  | [], [] => true
  | x :: xs, y :: ys => okOpd x y && okOpds xs ys
  | _, _ => false
def okOpdO : Option AOpd → Option Operand → Bool
  | none, none => true
  | some x, some y => okOpd x y
  | _, _ => false

/-- What is known of the tables among the package-level variables. -/
def GOK (κ : Kap) (G : Nat → AV) : Prop := ∀ n, VR κ 0 (G n) (.pointer (some ⟨n, 0, none⟩)) ∧ (G n).refless = true
theorem GOK.mono {κ κ' : Kap} {G : Nat → AV} (h : GOK κ G) {D : Nat} (k : KLe κ κ' D) : GOK κ' G := fun n => ⟨(h n).1.mono (k.low (Nat.zero_le D)), (h n).2⟩

theorem opnd_VR {κ : Kap} {s : St} {fr : Nat → AV} {a : Act} {G : Nat → AV} (hf : FR κ s fr a) (hG : GOK κ G) {x : AOpd} {y : Operand} (h : okOpd x y = true) : VR κ (s.depth + 1) ((opnd G fr x).pub s.depth) (a.eval y) := by
  cases x with
  | t n =>
    cases y <;> simp [okOpd] at h
    subst h
    exact hf n
  | c v =>
    cases y with
    | const x =>
      have h' : okVal v x = true := by cases v <;> simpa [okOpd] using h
      obtain ⟨h1, h2⟩ := okVal_sound v x h'
      simp only [opnd, refless_pub h2, Act.eval]
      exact h1 _ _
    | func g =>
      cases v <;> simp [okOpd] at h
      rename_i f caps
      cases caps with
      | nil =>
        simp [okOpd] at h
        subst h
        exact .fn f [] [] rfl (fun j c x hc => by simp at hc)
      | cons c cs => simp [okOpd] at h
    | tmp m => cases v <;> simp [okOpd] at h
    | global m => cases v <;> simp [okOpd] at h
  | g n =>
    cases y <;> simp [okOpd] at h
    subst h
    obtain ⟨h1, h2⟩ := hG n
    simp only [opnd, refless_pub h2, Act.eval]
    exact h1.up (Nat.zero_le _)
  | «at» n b off =>
    cases y <;> simp [okOpd] at h
    subst h
    simp only [opnd]
    rcases atV_or (fr n) (fr b) off with e | ⟨e, _⟩
    · rw [e]; exact .dead _
    · rw [e]; exact hf n
  | adv b off => cases y <;> simp [okOpd] at h

/-! ### Inversions -/
section
variable {κ : Kap} {D : Nat} {x : Value}
theorem VR.int_inv {k : IntKind} {n : Int} (h : VR κ D (.int k n) x) : x = .int k n := by cases h; rfl
theorem VR.bool_inv {b : Bool} (h : VR κ D (.bool b) x) : x = .bool b := by cases h; rfl
theorem VR.str_inv {bs : List Nat} (h : VR κ D (.str bs) x) : ∃ s, x = .string s ∧ s.data.toList.map UInt8.toNat = bs := by cases h; exact ⟨_, rfl, by assumption⟩
theorem VR.agg_inv {cs : List AV} (h : VR κ D (.agg cs) x) : ∃ xs : List Value, x = .agg xs.toArray ∧ VRs κ D cs xs := by cases h; exact ⟨_, rfl, by assumption, by assumption⟩
theorem VR.tup_inv {cs : List AV} (h : VR κ D (.tup cs) x) : ∃ xs : List Value, x = .tuple xs.toArray ∧ VRs κ D cs xs := by cases h; exact ⟨_, rfl, by assumption, by assumption⟩
theorem VR.fn_inv {f : Nat} {cs : List AV} (h : VR κ D (.fn f cs) x) : ∃ xs : List Value, x = .func (.func f) #[] xs.toArray ∧ VRs κ D cs xs := by cases h; exact ⟨_, rfl, by assumption, by assumption⟩
theorem VR.vptr_inv {cs : List AV} (h : VR κ D (.vptr cs) x) : ∃ (a : Addr) (vals : Nat → Value), x = .pointer (some a) ∧ a.spot = none ∧ (∀ j, j < cs.length → κ.F (a.add j) = some (vals j)) ∧ ∀ (j : Nat) (c : AV), cs[j]? = some c → VR κ D c (vals j) := by
  cases h; exact ⟨_, _, rfl, by assumption, by assumption, by assumption⟩
theorem VR.ref_inv {d i off : Nat} (h : VR κ D (.ref (.g d i) off) x) : x = .pointer (some ⟨κ.loc d i, off, none⟩) ∧ d < D ∧ i < κ.n d := by cases h; exact ⟨rfl, by assumption, by assumption⟩
theorem VR.msl_inv {d i off len cap sz : Nat} (h : VR κ D (.msl (.g d i) off len cap sz) x) : x = .slice (some ⟨κ.loc d i, off, none⟩) len cap ∧ d < D ∧ i < κ.n d ∧ len ≤ cap := by cases h; exact ⟨rfl, by assumption, by assumption, by assumption⟩
theorem VR.iface_inv {t : Nat} {v : AV} (h : VR κ D (.iface t v) x) : ∃ y, x = .iface t y ∧ VR κ D v y := by cases h; exact ⟨_, rfl, by assumption⟩
end

theorem VR.cells {κ : Kap} {D : Nat} {v : AV} {x : Value} (h : VR κ D v x) (hv : v.isVal = true) : VRs κ D v.cells x.cells.toList := by
  cases h <;> simp [AV.isVal] at hv <;> simp only [AV.cells, Value.cells]
  case agg cs xs hl hv' => exact ⟨by simpa using hl, by simpa using hv'⟩
  all_goals
    refine .cons ?_ (.nil _ _)
    first
      | exact .bool _ | exact .int _ _ | exact .str _ _ (by assumption) | exact .slNil _
      | exact .sl _ _ _ _ _ _ (by assumption) (by assumption) (by assumption) (by assumption) (by assumption) (by assumption) (by assumption)
      | exact .msl _ _ _ _ _ _ (by assumption) (by assumption) (by assumption) | exact .ref _ _ _ (by assumption) (by assumption)
      | exact .vptr _ _ _ (by assumption) (by assumption) (by assumption) | exact .nilp | exact .fn _ _ _ (by assumption) (by assumption)
      | exact .nilf | exact .nilmap | exact .map _ _ (by assumption) (by assumption) | exact .iface _ _ _ (by assumption) | exact .nili
theorem isVal_pub (v : AV) (d : Nat) : (v.pub d).isVal = v.isVal := by cases v <;> rfl
theorem cells_pub (v : AV) (d : Nat) : (v.pub d).cells.length = v.cells.length := by cases v <;> rfl
theorem VR.oneCell {κ : Kap} {D : Nat} {v : AV} {x : Value} (h : VR κ D v x) (hv : v.isCell = true) : x.oneCell' = true := by
  cases h <;> simp [AV.isCell] at hv <;> rfl
end Go.Ab
