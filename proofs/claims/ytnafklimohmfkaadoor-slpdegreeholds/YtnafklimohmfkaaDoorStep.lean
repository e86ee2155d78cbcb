/- One operation of a region, abstract and machine's: a test that can be computed, and that it suffices. -/
import Derived.Test.YtnafklimohmfkaaDoorOps9
import Derived.Test.YtnafklimohmfkaaDoorAbs
section
/- One operation of a region, abstract and machine's: a test that can be computed, and that it suffices. -/
namespace Go.Ab
set_option linter.unusedSimpArgs false

/-- The types that the code names. -/
structure TT where
  und : Nat → Option TypeDesc
  info : Nat → Option (Nat × Nat × Value)
  az : Nat → List AV
structure TT.OK (T : TT) (P : Program) : Prop where
  und : ∀ t d, T.und t = some d → P.underlying t = some d
  info : ∀ t n b z, T.info t = some (n, b, z) → ∃ i, P.info? t = some i ∧ i.size = n ∧ i.bytes = b ∧ i.zero = some z

def TT.size (T : TT) (t : Nat) : Option Nat := (T.info t).map (·.1)
def TT.bytes (T : TT) (t : Nat) : Option Nat := (T.info t).map (·.2.1)
def TT.zero (T : TT) (t : Nat) (z : List AV) : Bool :=
  match T.info t with
  | some (_, _, v) => okVals z v.cells.toList
  | none => false
def TT.load (T : TT) (t : Nat) (n : Option Nat) : Bool :=
  match T.und t with
  | some d => match n with
    | none => aggD d == false
    | some n => aggD d == true && T.size t == some n
  | none => false

section
variable {P : Program} {T : TT} (hT : T.OK P)
include hT
theorem TT.OK.size {t n : Nat} (h : T.size t = some n) : tySize P t = some n := by
  unfold TT.size at h
  cases hi : T.info t with
  | none => rw [hi] at h; cases h
  | some p =>
    obtain ⟨n', b, z⟩ := p
    rw [hi] at h
    simp only [Option.map_some, Option.some.injEq] at h
    obtain ⟨i, h1, h2, _⟩ := hT.info _ _ _ _ hi
    simp [tySize, h1, h2, h]
theorem TT.OK.bytes {t n : Nat} (h : T.bytes t = some n) : (P.info? t).map (·.bytes) = some n := by
  unfold TT.bytes at h
  cases hi : T.info t with
  | none => rw [hi] at h; cases h
  | some p =>
    obtain ⟨n', b, z⟩ := p
    rw [hi] at h
    simp only [Option.map_some, Option.some.injEq] at h
    obtain ⟨i, h1, _, h2, _⟩ := hT.info _ _ _ _ hi
    simp [h1, h2, h]
theorem TT.OK.zero {t : Nat} {z : List AV} (h : T.zero t z = true) : okZero P t z = true := by
  unfold TT.zero at h
  cases hi : T.info t with
  | none => rw [hi] at h; cases h
  | some p =>
    obtain ⟨n', b, v⟩ := p
    rw [hi] at h
    obtain ⟨i, h1, _, _, h2⟩ := hT.info _ _ _ _ hi
    simp only [okZero, h1, Option.bind_some, h2]
    exact h
theorem TT.OK.load {t : Nat} {n : Option Nat} (h : T.load t n = true) : okLoad P t n = true := by
  unfold TT.load at h
  cases hd : T.und t with
  | none => rw [hd] at h; cases h
  | some d =>
    rw [hd] at h
    have := hT.und _ _ hd
    cases n with
    | none => simp only at h; simp [okLoad, tyAgg, this]; simpa using h
    | some n =>
      simp only [Bool.and_eq_true] at h
      have h2 := hT.size (by simpa using h.2 : T.size t = some n)
      simp [okLoad, tyAgg, this, h2]
      simpa using h.1
end

def okPartsS : Nat → List AOpd → List (Nat × Operand) → Bool
  | _, [], [] => true
  | i, x :: xs, (j, y) :: ys => Nat.beq i j && okOpd x y && okPartsS (i + 1) xs ys
  | _, _, _ => false
theorem okPartsS_sound : ∀ (i : Nat) (xs : List AOpd) (ys : List (Nat × Operand)), okPartsS i xs ys = true → ∃ qs : List Operand, ys = (qs.zipIdx i).map (fun p => (p.2, p.1)) ∧ okOpds xs qs = true
  | _, [], [], _ => ⟨[], rfl, rfl⟩
  | _, [], _ :: _, h => by simp [okPartsS] at h
  | _, _ :: _, [], h => by simp [okPartsS] at h
  | i, x :: xs, (j, y) :: ys, h => by
    simp only [okPartsS, Bool.and_eq_true] at h
    obtain ⟨qs, h1, h2⟩ := okPartsS_sound (i + 1) xs ys h.2
    have hij := Nat.eq_of_beq_eq_true h.1.1
    subst hij
    exact ⟨y :: qs, by simp [h1], by simp [okOpds, h.1.2, h2]⟩

def fieldsAt (T : TT) : List Field → Option (List (Nat × Nat))
  | [] => some []
  | f :: fs => (T.size f.type).bind fun n => (fieldsAt T fs).map fun l => (f.offset, n) :: l
theorem fieldsAt_sound {P : Program} {T : TT} (hT : T.OK P) : ∀ (fs : List Field) (l : List (Nat × Nat)), fieldsAt T fs = some l → (fs.mapM fun f => (tySize P f.type).map fun n => (f.offset, n)) = some l
  | [], l, h => by simp only [fieldsAt, Option.some.injEq] at h; subst h; rfl
  | f :: fs, l, h => by
    simp only [fieldsAt] at h
    cases hn : T.size f.type with
    | none => rw [hn] at h; cases h
    | some n =>
      rw [hn] at h
      cases hl : fieldsAt T fs with
      | none => rw [hl] at h; cases h
      | some l' =>
        rw [hl] at h
        simp only [Option.bind_some, Option.map_some, Option.some.injEq] at h
        subst h
        rw [List.mapM_cons]
        simp [hT.size hn, fieldsAt_sound hT fs l' hl]

def opEq (a b : BinOp) : Bool := decide (a = b)

/-- Is the abstract operation the machine's? -/
def okOp (T : TT) (ao : AOp) (op : Op) : Bool :=
  match ao with
  | .move x | .moveF x =>
    match op with
    | .move y | .assign y => okOpd x y
    | _ => false
  | .pick c a b =>
    match op with
    | .pick c' a' b' => okOpd c c' && okOpd a a' && okOpd b b'
    | _ => false
  | .alloc z =>
    match op with
    | .alloc t => T.zero t z
    | _ => false
  | .boxRo x | .boxMut x =>
    match op with
    | .box _ y => okOpd x y
    | _ => false
  | .build z ps =>
    match op with
    | .build t qs =>
      match T.und t with
      | some (.struct fs) =>
        match fieldsAt T fs.toList with
        | some pl => T.zero t z && okParts (pl.toArray[·]?) ps qs.toList
        | none => false
      | some (.array _ el) =>
        match T.size el with
        | some sz => T.zero t z && okParts (fun i => some (i * sz, sz)) ps qs.toList
        | none => false
      | _ => false
    | _ => false
  | .buildSlice sz ps =>
    match op with
    | .buildSlice t len qs =>
      match T.und t with
      | some (.slice el) =>
        T.size el == some sz && T.zero el (T.az el) && Nat.beq (T.az el).length sz && Nat.beq len ps.length && Nat.ble (len * sz) 16777216 && okPartsS 0 ps qs.toList
      | _ => false
    | _ => false
  | .load n x =>
    match op with
    | .load t y => T.load t n && okOpd x y
    | _ => false
  | .store n x v =>
    match op with
    | .store t y u => T.size t == some n && okOpd x y && okOpd v u
    | _ => false
  | .nilCheck x =>
    match op with
    | .nilCheck y => okOpd x y
    | _ => false
  | .bin o x y =>
    match op with
    | .binOp o' _ x' y' _ => opEq o o' && okOpd x x' && okOpd y y'
    | _ => false
  | .eq neg e x y =>
    match op with
    | .binOp o t x' y' _ =>
      match T.und t with
      | some d => opEq o (if neg then .neq else .eql) && okEK e d && okOpd x x' && okOpd y y'
      | none => false
    | _ => false
  | .un o x =>
    match op with
    | .unOp o' _ y => decide (o = o') && okOpd x y
    | _ => false
  | .convInt k x =>
    match op with
    | .convert src dst y =>
      match T.und src, T.und dst with
      | some _, some (.int k') => decide (k = k') && okOpd x y
      | _, _ => false
    | _ => false
  | .convId x =>
    match op with
    | .convert src dst y =>
      match T.und src, T.und dst with
      | some _, some .string => okOpd x y
      | _, _ => false
    | _ => false
  | .bytesToStr x =>
    match op with
    | .convert src dst y =>
      match T.und src, T.und dst with
      | some (.slice el), some .string =>
        match T.und el with
        | some (.int .u8) => okOpd x y
        | _ => false
      | _, _ => false
    | _ => false
  | .strToBytes x =>
    match op with
    | .convert src dst y =>
      match T.und src, T.und dst with
      | some .string, some (.slice el) =>
        match T.und el with
        | some (.int .u8) => okOpd x y
        | _ => false
      | _, _ => false
    | _ => false
  | .mkIface t x =>
    match op with
    | .makeInterface t' y =>
      match T.und t with
      | some (.interface _) => false
      | some _ => Nat.beq t t' && okOpd x y
      | none => false
    | _ => false
  | .mkFunc f caps =>
    match op with
    | .makeFunc (.func f') first caps' => Nat.beq f f' && Nat.beq first.size 0 && okOpds caps caps'.toList
    | _ => false
  | .makeSlice z bytes l c =>
    match op with
    | .makeSlice t l' c' =>
      match T.und t with
      | some (.slice el) => T.zero el z && T.size el == some z.length && T.bytes el == some bytes && Nat.blt 0 bytes && okOpd l l' && okOpd c c'
      | _ => false
    | _ => false
  | .subStr x lo hi =>
    match op with
    | .slice t y lo' hi' none =>
      match T.und t with
      | some .string => okOpd x y && okOpdO lo lo' && okOpdO hi hi'
      | _ => false
    | _ => false
  | .slice sz x lo hi mx =>
    match op with
    | .slice t y lo' hi' mx' =>
      match T.und t with
      | some (.slice el) => T.size el == some sz && okOpd x y && okOpdO lo lo' && okOpdO hi hi' && okOpdO mx mx' && (!mx.isSome || hi.isSome)
      | _ => false
    | _ => false
  | .sliceA sz len x lo hi mx =>
    match op with
    | .slice t y lo' hi' mx' =>
      match T.und t with
      | some (.array n el) => Nat.beq n len && T.size el == some sz && okOpd x y && okOpdO lo lo' && okOpdO hi hi' && okOpdO mx mx' && (!mx.isSome || hi.isSome)
      | _ => false
    | _ => false
  | .appendS sz bytes _ x y =>
    match op with
    | .call { callee := .builtin .append, args := ⟨[x', y']⟩, argTypes := ⟨[t, t2]⟩ } =>
      match T.und t with
      | some (.slice el) =>
        match T.info el with
        | some (n, b, z) =>
          (match T.und t2 with
            | some (.slice _) | some .string => true
            | _ => false) && Nat.beq n sz && Nat.beq b bytes && Nat.beq z.cells.size sz && Nat.blt 0 bytes && Nat.ble bytes 1048576 && okOpd x x' && okOpd y y'
        | none => false
      | _ => false
    | _ => false
  | .appendR sz bytes _ x y =>
    match op with
    | .call { callee := .builtin .append, args := ⟨[x', y']⟩, argTypes := ⟨[t, t2]⟩ } =>
      match T.und t with
      | some (.slice el) =>
        match T.info el with
        | some (n, b, z) =>
          (match T.und t2 with
            | some (.slice _) | some .string => true
            | _ => false) && Nat.beq n sz && Nat.beq b bytes && Nat.beq z.cells.size sz && Nat.blt 0 bytes && Nat.ble bytes 1048576 && okOpd x x' && okOpd y y'
        | none => false
      | _ => false
    | _ => false
  | .buildSliceR sz ps =>
    match op with
    | .buildSlice t len qs =>
      match T.und t with
      | some (.slice el) =>
        T.size el == some sz && T.zero el (T.az el) && Nat.beq (T.az el).length sz && Nat.beq len ps.length && Nat.ble (len * sz) 16777216 && okPartsS 0 ps qs.toList
      | _ => false
    | _ => false
  | .fieldAddr off x =>
    match op with
    | .fieldAddr t y i =>
      match T.und t with
      | some (.struct fs) =>
        match fs[i]? with
        | some f =>
          match T.size f.type with
          | some n => Nat.beq f.offset off && Nat.blt 0 n && okOpd x y
          | none => false
        | none => false
      | _ => false
    | _ => false
  | .field off n x =>
    match op with
    | .field t y i =>
      match T.und t with
      | some (.struct fs) =>
        match fs[i]? with
        | some f => Nat.beq f.offset off && T.load f.type n && okOpd x y
        | none => false
      | _ => false
    | _ => false
  | .idxSl sz x i =>
    match op with
    | .indexAddr t y j =>
      match T.und t with
      | some (.slice el) => T.size el == some sz && okOpd x y && okOpd i j
      | _ => false
    | _ => false
  | .idxArr sz len x i =>
    match op with
    | .indexAddr t y j =>
      match T.und t with
      | some (.array n el) => Nat.beq n len && T.size el == some sz && okOpd x y && okOpd i j
      | _ => false
    | _ => false
  | .idxStr x i =>
    match op with
    | .index t y j =>
      match T.und t with
      | some .string => okOpd x y && okOpd i j
      | _ => false
    | _ => false
  | .idxAgg sz len n x i =>
    match op with
    | .index t y j =>
      match T.und t with
      | some (.array m el) => Nat.beq m len && T.size el == some sz && T.load el n && okOpd x y && okOpd i j
      | _ => false
    | _ => false
  | .extract x i =>
    match op with
    | .extract y j => Nat.beq i j && okOpd x y
    | _ => false
  | .call f xs | .callP f xs =>
    match op with
    | .call c =>
      match c.callee with
      | .value (.func f') => Nat.beq f f' && okOpds xs c.args.toList
      | _ => false
    | _ => false
  | .callV f xs | .callVP f xs =>
    match op with
    | .call c =>
      match c.callee with
      | .value g => okOpd f g && okOpds xs c.args.toList
      | _ => false
    | _ => false
  | .len b x =>
    match op with
    | .call { callee := .builtin .len, args := ⟨[y]⟩, argTypes := ⟨[t]⟩ } =>
      match T.und t with
      | some .string => b && okOpd x y
      | some (.slice _) => !b && okOpd x y
      | _ => false
    | _ => false
  | .append sz bytes _ x y =>
    match op with
    | .call { callee := .builtin .append, args := ⟨[x', y']⟩, argTypes := ⟨[t, t2]⟩ } =>
      match T.und t with
      | some (.slice el) =>
        match T.info el with
        | some (n, b, z) =>
          (match T.und t2 with
            | some (.slice _) | some .string => true
            | _ => false) && Nat.beq n sz && Nat.beq b bytes && Nat.beq z.cells.size sz && Nat.blt 0 bytes && Nat.ble bytes 1048576 && okOpd x x' && okOpd y y'
        | none => false
      | _ => false
    | _ => false
  | .copy sz x y =>
    match op with
    | .call { callee := .builtin .copy, args := ⟨[x', y']⟩, argTypes := ⟨[t, _]⟩ } =>
      match T.und t with
      | some (.slice el) => T.size el == some sz && okOpd x x' && okOpd y y'
      | _ => false
    | _ => false
  | .min xs =>
    match op with
    | .call c =>
      match c.callee with
      | .builtin .min => okOpds xs c.args.toList
      | _ => false
    | _ => false
  | .max xs =>
    match op with
    | .call c =>
      match c.callee with
      | .builtin .max => okOpds xs c.args.toList
      | _ => false
    | _ => false
  | .makeMap _ =>
    match op with
    | .makeMap _ none => true
    | _ => false
  | .mapPut kd m x v =>
    match op with
    | .mapUpdate t m' x' v' | .insert t m' x' v' =>
      match T.und t with
      | some (.map kt _) =>
        match T.und kt with
        | some d => okKD kd d && okOpd m m' && okOpd x x' && okOpd v v'
        | none => false
      | _ => false
    | _ => false
  | .lookup kd z ok m x =>
    match op with
    | .lookup t m' x' ok' =>
      match T.und t with
      | some (.map kt et) =>
        match T.und kt, T.info et with
        | some d, some (_, _, Z) => okKD kd d && okVal z Z && (ok == ok') && okOpd m m' && okOpd x x'
        | _, _ => false
      | _ => false
    | _ => false
  | .callC _ f xs =>
    match op with
    | .call c =>
      match c.callee with
      | .value (.func f') => Nat.beq f f' && okOpds xs c.args.toList
      | _ => false
    | _ => false
  | .callVC _ f xs =>
    match op with
    | .call c =>
      match c.callee with
      | .value g => okOpd f g && okOpds xs c.args.toList
      | _ => false
    | _ => false
  | .nilI neg x =>
    match op with
    | .binOp o t x' (.const .nilIface) _ =>
      match T.und t with
      | some (.interface _) => opEq o (if neg then .neq else .eql) && okOpd x x'
      | _ => false
    | _ => false
  | .no => true
end Go.Ab
end
section
/- One operation of a region, abstract and machine's: the test suffices. -/
namespace Go.Ab
set_option linter.unusedSimpArgs false

theorem VR.pub_eq {κ : Kap} {D : Nat} {v : AV} {x : Value} (h : VR κ D v x) (d : Nat) : v.pub d = v := by
  cases h <;> try rfl
  rename_i sz es g a cap vals hg h1 h2 h3 h4 h5 h6
  cases g <;> try rfl
  rename_i l
  cases l with
  | l i => exact absurd hg (by simp [GrOK])
  | g d i => rfl

theorem run_fold {P : Program} {w : World} {κ : Kap} {D : Nat} (f : AV → AV → Option AV) (g : Value → Value → Sem Value)
    (hfg : ∀ x y z X Y, f x y = some z → VR κ D x X → VR κ D y Y → ∃ Z, (g X Y).run P w = .ok Z w ∧ VR κ D z Z) : ∀ (ys : List AV) (Ys : List Value) (x v : AV) (X : Value), foldV f x ys = some v → VR κ D x X → VRs κ D ys Ys →
      ∃ V, (Ys.foldlM g X).run P w = .ok V w ∧ VR κ D v V
  | [], Ys, x, v, X, h, hx, hys => by
    simp only [foldV, Option.some.injEq] at h
    have : Ys = [] := List.eq_nil_of_length_eq_zero hys.1
    subst this
    subst h
    exact ⟨X, by simp, hx⟩
  | y :: ys, Ys, x, v, X, h, hx, hys => by
    cases Ys with
    | nil => exact absurd hys.1 (by simp)
    | cons Y Ys =>
      simp only [foldV] at h
      cases hz : f x y with
      | none => rw [hz] at h; cases h
      | some z =>
        rw [hz] at h
        simp only [Option.bind_some] at h
        obtain ⟨Z, h1, h2⟩ := hfg x y z X Y hz hx (hys.2 0 y Y rfl rfl)
        obtain ⟨V, h3, h4⟩ := run_fold f g hfg ys Ys z v Z h h2 ⟨by have := hys.1; simpa using this, fun j c y hc hy => hys.2 (j + 1) c y (by simpa using hc) (by simpa using hy)⟩
        exact ⟨V, by simp [List.foldlM_cons, h1, h3], h4⟩

section
variable {P : Program} {ty : TypeId} {κ : Kap} {s : St} {w : World}

theorem min2_run (x y z : AV) (X Y : Value) (h : min2 x y = some z) (hx : VR κ (s.depth + 1) x X) (hy : VR κ (s.depth + 1) y Y) : ∃ Z, (Builtin.min2 X Y).run P w = .ok Z w ∧ VR κ (s.depth + 1) z Z := by
  cases x <;> cases y <;> simp [min2] at h
  subst h
  rw [hx.int_inv, hy.int_inv]
  exact ⟨_, by simp only [Builtin.min2]; rfl, .int _ _⟩
theorem max2_run (x y z : AV) (X Y : Value) (h : max2 x y = some z) (hx : VR κ (s.depth + 1) x X) (hy : VR κ (s.depth + 1) y Y) : ∃ Z, (Builtin.max2 X Y).run P w = .ok Z w ∧ VR κ (s.depth + 1) z Z := by
  cases x <;> cases y <;> simp [max2] at h
  subst h
  rw [hx.int_inv, hy.int_inv]
  exact ⟨_, by simp only [Builtin.max2]; rfl, .int _ _⟩

theorem opnds_VRs {fr : Nat → AV} {a : Act} {G : Nat → AV} (hf : FR κ s fr a) (hG : GOK κ G) : ∀ (xs : List AOpd) (ys : List Operand), okOpds xs ys = true → VRs κ (s.depth + 1) (xs.map fun x => (opnd G fr x).pub s.depth) (ys.map a.eval)
  | [], [], _ => .nil _ _
  | [], _ :: _, h => by simp [okOpds] at h
  | _ :: _, [], h => by simp [okOpds] at h
  | x :: xs, y :: ys, h => by
    simp only [okOpds, Bool.and_eq_true] at h
    exact .cons (opnd_VR hf hG h.1) (opnds_VRs hf hG xs ys h.2)

/-- What a call gives. -/
def After (κ : Kap) (s : St) (w : World) (v : AV) (s' : St) (x : Value) (w' : World) : Prop := ∃ κ', Ext κ s w κ' s' w' ∧ Sim κ' s' w' ∧ VR κ' (s.depth + 1) (v.pub s.depth) x

/-- The machine's operation gives what the abstract one gave, at once or by a call. -/
def Does (P : Program) (o : Op) (ty : TypeId) (ρ : Operand → Value) (κ : Kap) (s : St) (w : World) (v : AV) (s' : St) : Prop :=
  Gives P o ty ρ κ s w v s' ∨ ∃ f xs, (∀ dst pos after guard, (execOp ρ ⟨dst, o, ty, pos, after, guard⟩).run P w = .ok (.enter f xs) w) ∧ Calls P f xs w fun e w' => ∃ x, e = .returned x ∧ After κ s w v s' x w'

/-- What is asked of the calls. -/
structure CallOK (P : Program) (E : Env) : Prop where
  loop : ∃ n, ∀ step keep fr s k, E.loop step keep fr s k = loopIter step keep n fr s k
  nopanic : ∀ f args s v s', E.call f args s ≠ .panic v s'
  ok : ∀ f args s v s' κ w xs, E.call f args s = .ok v s' → Sim κ s w → GOK κ E.glob → VRs κ (s.depth + 1) args xs →
    (∃ x w', (callFunc f xs.toArray).run P w = .ok (.value x) w' ∧ After κ s w v s' x w') ∨
    ((callFunc f xs.toArray).run P w = .ok (.enter f xs.toArray) w ∧ Calls P f xs.toArray w fun e w' => ∃ x, e = .returned x ∧ After κ s w v s' x w')

theorem does_of_call {E : Env} (hC : CallOK P E) (hs : Sim κ s w) (hG : GOK κ E.glob) {f : Nat} {args : List AV} {v : AV} {s' : St} {xs : List Value} {o : Op} {ρ : Operand → Value} (h : E.call f args s = .ok v s') (hx : VRs κ (s.depth + 1) args xs)
    (ho : ∀ dst pos after guard, execOp ρ ⟨dst, o, ty, pos, after, guard⟩ = callFunc f xs.toArray) : Does P o ty ρ κ s w v s' := by
  rcases hC.ok f args s v s' κ w xs h hs hG hx with ⟨x, w', h1, κ', h2, h3, h4⟩ | ⟨h1, h2⟩
  · exact .inl ⟨x, κ', w', .inl (fun dst pos after guard => by rw [ho]; exact h1), h2, h3, h4⟩
  · exact .inr ⟨f, xs.toArray, fun dst pos after guard => by rw [ho]; exact h1, h2⟩

/-- A call that has seen no mutable object, among those that there are. -/
theorem After.pure (hs : Sim κ s w) {v : AV} {s'' : St} {x : Value} {w' : World} (h : After { κ with n := fun _ => 0 } { own := [], up := [], ro := [] } w v s'' x w') (hv : v.refless = true) : After κ s w v s x w' := by
  obtain ⟨κ', h1, h2, h3⟩ := h
  have hno : ∀ b, ¬ Live { κ with n := fun _ => 0 } { own := [], up := [], ro := [] } b := fun b ⟨d, i, o, hg, _⟩ => by simp [St.get] at hg
  have hk : KLe κ { κ with F := κ'.F } (s.depth + 1) := ⟨fun a v h => h1.k.F a v h, fun _ _ => Nat.le_refl _, fun _ _ _ _ => rfl, fun _ _ _ _ _ _ h => h⟩
  refine ⟨{ κ with F := κ'.F }, ⟨hk, rfl, h1.size, h1.os, h1.tape, h1.output, fun b hb _ => h1.chg b hb (hno b), fun b hb hl => ?_, fun a ha => ?_⟩, ?_, ?_⟩
  · obtain ⟨d, i, o, hg, hb'⟩ := hl
    exact ⟨d, i, o, hg, hb'⟩
  · rcases h1.frz a ha with q | q | q
    · exact .inl q
    · exact .inr (.inl q)
    · exact absurd q (hno _)
  · refine hs.world hk rfl rfl (fun a v h => h2.froz a v h) (fun b hb => ⟨h1.chg b (hs.live_lt hb) (hno b), fun o => ?_⟩)
    show κ'.F ⟨b, o, none⟩ = κ.F ⟨b, o, none⟩
    cases hq : κ.F ⟨b, o, none⟩ with
    | some v => exact h1.k.F _ _ hq
    | none =>
      cases hq' : κ'.F ⟨b, o, none⟩ with
      | none => rfl
      | some v =>
        rcases h1.frz ⟨b, o, none⟩ (by rw [hq']; simp) with q | q | q
        · exact absurd hq q
        · exact absurd (hs.live_lt hb) (Nat.not_lt.2 q)
        · exact absurd q (hno _)
  · have h3' : VR κ' (({ own := [], up := [], ro := [] } : St).depth + 1) v x := by rw [refless_pub hv] at h3; exact h3
    rw [refless_pub hv]
    exact h3'.refless hv _ (fun _ _ h => h)

theorem does_of_callP {E : Env} (hC : CallOK P E) (hs : Sim κ s w) (hG : GOK κ E.glob) {f : Nat} {args : List AV} {v : AV} {s'' : St} {xs : List Value} {o : Op} {ρ : Operand → Value} (h : E.call f args { own := [], up := [], ro := [] } = .ok v s'') (hv : v.refless = true) (hx : VRs κ (s.depth + 1) args xs) (hr : AV.reflessL args = true)
    (ho : ∀ dst pos after guard, execOp ρ ⟨dst, o, ty, pos, after, guard⟩ = callFunc f xs.toArray) : Does P o ty ρ κ s w v s := by
  have hx' : VRs { κ with n := fun _ => 0 } (({ own := [], up := [], ro := [] } : St).depth + 1) args xs := ⟨hx.1, fun j c x hc hx0 => (hx.2 j c x hc hx0).refless (reflessL_get hr hc) _ (fun _ _ h => h)⟩
  have hG' : GOK { κ with n := fun _ => 0 } E.glob := fun n => ⟨(hG n).1.refless (hG n).2 _ (fun _ _ h => h), (hG n).2⟩
  rcases hC.ok f args _ v s'' _ w xs h hs.empty hG' hx' with ⟨x, w', h1, h2⟩ | ⟨h1, h2⟩
  · obtain ⟨κ', q1, q2, q3⟩ := h2.pure hs hv
    exact .inl ⟨x, κ', w', .inl (fun dst pos after guard => by rw [ho]; exact h1), q1, q2, q3⟩
  · exact .inr ⟨f, xs.toArray, fun dst pos after guard => by rw [ho]; exact h1, h2.mono fun e w' ⟨x, he, hA⟩ => ⟨x, he, hA.pure hs hv⟩⟩

theorem exec_call {ρ : Operand → Value} {c : Call} {f : Nat} {xs : Array Value} (hc : ∃ y, c.callee = .value y ∧ ρ y = .func (.func f) #[] xs) : ∀ dst pos after guard, execOp ρ ⟨dst, .call c, ty, pos, after, guard⟩ = callFunc f (c.args.toList.map ρ ++ xs.toList).toArray := by
  intro dst pos after guard
  obtain ⟨y, hy, e⟩ := hc
  have h1 : resolve ρ c ty = (Pure.pure { target := .fn (.func f) xs, args := #[] ++ c.args.map ρ } : Sem Deferred) := by
    simp only [resolve, hy, e, Deferred.ofValue]
  have h2 : (#[] ++ c.args.map ρ) ++ xs = (c.args.toList.map ρ ++ xs.toList).toArray := by
    apply Array.ext'
    simp
  show (do let d ← resolve ρ c ty; invoke d.target d.args) = _
  rw [h1]
  show invoke (.fn (.func f) xs) (#[] ++ c.args.map ρ) = _
  simp only [invoke, h2]
end
end Go.Ab
end
section
/- One operation of a region, abstract and machine's: all of them. -/
namespace Go.Ab
set_option linter.unusedSimpArgs false
set_option linter.unusedSectionVars false

section
variable {P : Program} {T : TT} (hT : T.OK P) {ty : TypeId} {κ : Kap} {s : St} {w : World} (hs : Sim κ s w) {E : Env} (hE : E.F = .not) (hC : CallOK P E) {fr : Nat → AV} {a : Act} (hfr : FR κ s fr a) (hG : GOK κ E.glob) {k kp : AV → St → Res} {r : Res} (hf : r ≠ .fail)
include hs hE hfr hG hf

theorem oV_inv {v : Option AV} (h : oV E s k v = r) : ∃ v', v = some v' ∧ k v' s = r := by
  cases v with
  | none => exact absurd h.symm hf
  | some v' => simp only [oV, hE, Force.not] at h; exact ⟨v', rfl, h⟩

theorem sound_bin {o : BinOp} {x y : AOpd} {x' y' : Operand} {t yt : TypeId} (hx : okOpd x x' = true) (hy : okOpd y y' = true) (hr : oV E s k (binV o (opnd E.glob fr x) (opnd E.glob fr y)) = r) : ∃ v s', k v s' = r ∧ Does P (.binOp o t x' y' yt) ty a.eval κ s w v s' := by
  obtain ⟨v, hv, hk⟩ := oV_inv hs hE hfr hG hf hr
  refine ⟨v, s, hk, .inl ?_⟩
  have h1 := opnd_VR hfr hG hx
  have h2 := opnd_VR hfr hG hy
  generalize opnd E.glob fr x = X at h1 hv
  generalize opnd E.glob fr y = Y at h2 hv
  unfold binV at hv
  split at hv
  · exact gives_shift hs h1.int_inv h2.int_inv (.inl rfl) hv
  · exact gives_shift hs h1.int_inv h2.int_inv (.inr rfl) hv
  · rename_i k1 a1 k2 a2 _ _
    split at hv
    · rename_i hk12
      subst hk12
      exact gives_bin_int hs h1.int_inv h2.int_inv hv
    · cases hv
  · exact gives_bin_str hs h1 h2 hv
  · cases hv

theorem sound_un {o : UnOp} {x : AOpd} {x' : Operand} {t : TypeId} (hx : okOpd x x' = true) (hr : oV E s k (unV o (opnd E.glob fr x)) = r) : ∃ v s', k v s' = r ∧ Does P (.unOp o t x') ty a.eval κ s w v s' := by
  obtain ⟨v, hv, hk⟩ := oV_inv hs hE hfr hG hf hr
  refine ⟨v, s, hk, .inl ?_⟩
  have h1 := opnd_VR hfr hG hx
  generalize opnd E.glob fr x = X at h1 hv
  unfold unV at hv
  split at hv
  · simp only [Option.some.injEq] at hv; subst hv; exact gives_un_neg hs h1.int_inv
  · simp only [Option.some.injEq] at hv; subst hv; exact gives_un_xor hs h1.int_inv
  · simp only [Option.some.injEq] at hv; subst hv; exact gives_un_not hs h1.bool_inv
  · cases hv

theorem sound_fold {f : AV → AV → Option AV} {g : Value → Value → Sem Value} (hfg : ∀ x y z X Y, f x y = some z → VR κ (s.depth + 1) x X → VR κ (s.depth + 1) y Y → ∃ Z, (g X Y).run P w = .ok Z w ∧ VR κ (s.depth + 1) z Z) {xs : List AOpd} {ys : List Operand} (hxs : okOpds xs ys = true)
    {o : Op} (ho : ∀ x rest, ys.map a.eval = x :: rest → ∀ dst pos after guard, execOp a.eval ⟨dst, o, ty, pos, after, guard⟩ = (do pure (.value (← rest.foldlM g x)) : Sem Next))
    (hr : foldOp E s k f (xs.map fun x => (opnd E.glob fr x).pub s.depth) = r) : ∃ v s', k v s' = r ∧ Does P o ty a.eval κ s w v s' := by
  have hv := opnds_VRs hfr hG xs ys hxs
  cases hX : xs.map (fun x => (opnd E.glob fr x).pub s.depth) with
  | nil => rw [hX] at hr; exact absurd hr.symm hf
  | cons x l =>
    rw [hX] at hr hv
    cases hY : ys.map a.eval with
    | nil => rw [hY] at hv; exact absurd hv.1 (by simp)
    | cons Y L =>
      rw [hY] at hv
      simp only [foldOp] at hr
      obtain ⟨v, h1, hk⟩ := oV_inv hs hE hfr hG hf hr
      obtain ⟨V, h2, h3⟩ := run_fold f g hfg l L x v Y h1 (hv.2 0 x Y rfl rfl) ⟨by have := hv.1; simpa using this, fun j c y hc hy => hv.2 (j + 1) c y (by simpa using hc) (by simpa using hy)⟩
      refine ⟨v, s, hk, .inl (gives_same hs V (fun dst pos after guard => ?_) (by rw [h3.pub_eq]; exact h3))⟩
      rw [ho Y L hY]
      simp [h2]

theorem gv {o : Op} {ρ : Operand → Value} {v : AV} {s' : St} (hk : k v s' = r) (h : Gives P o ty ρ κ s w v s') : ∃ v s', k v s' = r ∧ Does P o ty ρ κ s w v s' := ⟨v, s', hk, .inl h⟩
theorem gv1 {o : Op} {ρ : Operand → Value} (h : ∃ v, k v s = r ∧ Gives P o ty ρ κ s w v s) : ∃ v s', k v s' = r ∧ Does P o ty ρ κ s w v s' := by
  obtain ⟨v, h1, h2⟩ := h
  exact ⟨v, s, h1, .inl h2⟩
theorem gv2 {o : Op} {ρ : Operand → Value} (h : ∃ v s', k v s' = r ∧ Gives P o ty ρ κ s w v s') : ∃ v s', k v s' = r ∧ Does P o ty ρ κ s w v s' := by
  obtain ⟨v, s', h1, h2⟩ := h
  exact ⟨v, s', h1, .inl h2⟩

include hC in
theorem callV_sound {f : Nat} {args : List AV} {xs : List Value} {o : Op} {ρ : Operand → Value} (hx : VRs κ (s.depth + 1) args xs) (ho : ∀ dst pos after guard, execOp ρ ⟨dst, o, ty, pos, after, guard⟩ = callFunc f xs.toArray) (hr : callV E s k kp f args = r) : ∃ v s', k v s' = r ∧ Does P o ty ρ κ s w v s' := by
  unfold callV at hr
  cases hc : E.call f args s with
  | fail => rw [hc] at hr; exact absurd hr.symm hf
  | panic v s' => exact absurd hc (hC.nopanic _ _ _ _ _)
  | ok v s' =>
    rw [hc] at hr
    obtain ⟨_, hr1⟩ := bif_cases hr hf
    exact ⟨v, s', hr1, does_of_call hC hs hG hc hx ho⟩
include hC in
theorem callPV_sound {f : Nat} {args : List AV} {xs : List Value} {o : Op} {ρ : Operand → Value} (hx : VRs κ (s.depth + 1) args xs) (ho : ∀ dst pos after guard, execOp ρ ⟨dst, o, ty, pos, after, guard⟩ = callFunc f xs.toArray) (hr : callPV E s k f args = r) : ∃ v s', k v s' = r ∧ Does P o ty ρ κ s w v s' := by
  unfold callPV at hr
  obtain ⟨hb, hr1⟩ := bif_cases hr hf
  cases hc : E.call f args { own := [], up := [], ro := [] } with
  | fail => rw [hc] at hr1; exact absurd hr1.symm hf
  | panic v s' => exact absurd hc (hC.nopanic _ _ _ _ _)
  | ok v s' =>
    rw [hc] at hr1
    obtain ⟨hb2, hr2⟩ := bif_cases hr1 hf
    exact ⟨v, s, hr2, does_of_callP hC hs hG hc hb2 hx hb ho⟩

include hT hC in
theorem step_sound {ao : AOp} {op : Op} (h : okOp T ao op = true) (hr : stepOp E fr s k kp ao = r) : ∃ v s', k v s' = r ∧ Does P op ty a.eval κ s w v s' := by
  have hF : E.F = .not := hE
  cases ao with
  | move x =>
    simp only [stepOp, hE, Force.not] at hr
    simp only [okOp] at h
    split at h
    · exact gv hs hE hfr hG hf hr (gives_move hs (opnd_VR hfr hG h))
    · exact gv hs hE hfr hG hf hr (gives_assign hs (opnd_VR hfr hG h))
    · cases h
  | moveF x =>
    simp only [stepOp] at hr
    simp only [okOp] at h
    split at h
    · exact gv2 hs hE hfr hG hf (gives_moveF hs hE hf (fun _ _ _ _ => by simp [execOp]) (opnd_VR hfr hG h) hr)
    · exact gv2 hs hE hfr hG hf (gives_moveF hs hE hf (fun _ _ _ _ => by simp [execOp]) (opnd_VR hfr hG h) hr)
    · cases h
  | pick c x y =>
    simp only [stepOp] at hr
    simp only [okOp] at h
    split at h
    · simp only [Bool.and_eq_true] at h
      have hc := opnd_VR hfr hG h.1.1
      generalize opnd E.glob fr c = X at hc hr
      cases X <;> simp only [pickV, hE, Force.not] at hr <;> try exact absurd hr.symm hf
      exact gv hs hE hfr hG hf hr (gives_pick hs hc.bool_inv (opnd_VR hfr hG h.1.2) (opnd_VR hfr hG h.2))
    · cases h
  | alloc z =>
    simp only [stepOp, hE, Force.not] at hr
    simp only [okOp] at h
    split at h
    · exact gv hs hE hfr hG hf hr (gives_alloc hs (hT.zero h))
    · cases h
  | boxRo x =>
    simp only [stepOp, hE, Force.not] at hr
    simp only [okOp] at h
    obtain ⟨hb, hr1⟩ := bif_cases hr hf
    split at h
    · exact gv hs hE hfr hG hf hr1 (gives_boxRo hs (opnd_VR hfr hG h) hb)
    · cases h
  | boxMut x =>
    simp only [stepOp, hE, Force.not] at hr
    simp only [okOp] at h
    obtain ⟨hb, hr1⟩ := bif_cases hr hf
    split at h
    · exact gv hs hE hfr hG hf hr1 (gives_boxMut hs (opnd_VR hfr hG h) hb)
    · cases h
  | build z ps =>
    simp only [stepOp] at hr
    simp only [okOp] at h
    obtain ⟨v, h1, hk⟩ := oV_inv hs hE hfr hG hf hr
    cases hfp : fillParts E.glob s.depth fr z ps with
    | none => rw [hfp] at h1; cases h1
    | some cs =>
      rw [hfp] at h1
      simp only [Option.map_some, Option.some.injEq] at h1
      subst h1
      split at h
      · rename_i t qs
        split at h
        · rename_i fs ht
          split at h
          · rename_i pl hpl
            simp only [Bool.and_eq_true] at h
            have := gives_build_struct (ty := ty) hs hfr hG (hT.und _ _ ht) (hT.zero h.1) (pl := pl.toArray) (by simpa using fieldsAt_sound hT _ _ hpl) h.2 hfp
            exact gv hs hE hfr hG hf hk (by simpa using this)
          · cases h
        · rename_i n el ht
          split at h
          · rename_i sz hsz
            simp only [Bool.and_eq_true] at h
            have := gives_build_array (ty := ty) hs hfr hG (hT.und _ _ ht) (hT.size hsz) (hT.zero h.1) h.2 hfp
            exact gv hs hE hfr hG hf hk (by simpa using this)
          · cases h
        · cases h
      · cases h
  | buildSlice sz ps =>
    simp only [stepOp, buildSliceV, hE, Force.not] at hr
    simp only [okOp] at h
    obtain ⟨hb, hr1⟩ := bif_cases hr hf
    split at h
    · rename_i t len qs
      split at h
      · rename_i el ht
        simp only [Bool.and_eq_true, beq_iff_eq] at h
        obtain ⟨⟨⟨⟨⟨h1, h2⟩, h3⟩, h4⟩, h5⟩, h6⟩ := h
        obtain ⟨ys, e, hok⟩ := okPartsS_sound 0 ps qs.toList h6
        have hlen : ps.length = ys.length := by
          have : ∀ (ps : List AOpd) (qs : List Operand), okOpds ps qs = true → ps.length = qs.length := by
            intro ps
            induction ps with
            | nil => intro qs h; cases qs <;> simp [okOpds] at h ⊢
            | cons p ps ih => intro qs h; cases qs with
              | nil => simp [okOpds] at h
              | cons q qs => simp only [okOpds, Bool.and_eq_true] at h; simp [ih qs h.2]
          exact this ps ys hok
        have hl : len = ys.length := by rw [← hlen]; exact Nat.eq_of_beq_eq_true h4
        simp only [Bool.and_eq_true, List.all_eq_true, Nat.beq_eq_true_eq] at hb
        have h5' := Nat.le_of_ble_eq_true h5
        have := gives_buildSlice (ty := ty) hs hfr hG (hT.und _ _ ht) (hT.size h1) (hT.zero h2) (Nat.eq_of_beq_eq_true h3) (by rw [← hl]; omega) hok hb.1 (fun e he => ⟨(hb.2 e he).1, Nat.eq_of_beq_eq_true (hb.2 e he).2⟩)
        rw [← e] at this
        rw [hl]
        exact gv hs hE hfr hG hf hr1 (by simpa using this)
      · cases h
    · cases h
  | load n x =>
    simp only [stepOp] at hr
    simp only [okOp] at h
    split at h
    · simp only [Bool.and_eq_true] at h
      exact gv1 hs hE hfr hG hf (gives_load hs hE hf (hT.load h.1) (opnd_VR hfr hG h.2) hr)
    · cases h
  | store n x v =>
    simp only [stepOp] at hr
    simp only [okOp] at h
    split at h
    · simp only [Bool.and_eq_true, beq_iff_eq] at h
      exact gv2 hs hE hfr hG hf (gives_store hs hE hf (hT.size h.1.1) (opnd_VR hfr hG h.1.2) (opnd_VR hfr hG h.2) hr)
    · cases h
  | nilCheck x =>
    simp only [stepOp] at hr
    simp only [okOp] at h
    split at h
    · have hx := opnd_VR hfr hG h
      generalize opnd E.glob fr x = X at hx hr
      unfold nilCheckV at hr
      split at hr
      · simp only [hE, Force.not] at hr
        exact gv hs hE hfr hG hf hr (gives_nilCheck hs hx (by assumption))
      · exact absurd hr.symm hf
    · cases h
  | bin o x y =>
    simp only [stepOp] at hr
    simp only [okOp] at h
    split at h
    · simp only [Bool.and_eq_true, opEq, decide_eq_true_eq] at h
      obtain ⟨⟨rfl, h2⟩, h3⟩ := h
      exact sound_bin hs hE hfr hG hf h2 h3 hr
    · cases h
  | eq neg e x y =>
    simp only [stepOp] at hr
    simp only [okOp] at h
    obtain ⟨v, h1, hk⟩ := oV_inv hs hE hfr hG hf hr
    split at h
    · split at h
      · rename_i d ht
        simp only [Bool.and_eq_true, opEq, decide_eq_true_eq] at h
        obtain ⟨⟨⟨e1, h2⟩, h3⟩, h4⟩ := h
        cases he : eqV e (opnd E.glob fr x) (opnd E.glob fr y) with
        | none => rw [he] at h1; cases h1
        | some b =>
          rw [he] at h1
          simp only [Option.map_some, Option.some.injEq] at h1
          subst h1
          exact gv hs hE hfr hG hf hk (gives_eq hs e1 (hT.und _ _ ht) h2 (opnd_VR hfr hG h3) (opnd_VR hfr hG h4) he)
      · cases h
    · cases h
  | un o x =>
    simp only [stepOp] at hr
    simp only [okOp] at h
    split at h
    · simp only [Bool.and_eq_true, decide_eq_true_eq] at h
      obtain ⟨rfl, h2⟩ := h
      exact sound_un hs hE hfr hG hf h2 hr
    · cases h
  | convInt d x =>
    simp only [stepOp] at hr
    simp only [okOp] at h
    split at h
    · split at h
      · rename_i hsrc hdst
        simp only [Bool.and_eq_true, decide_eq_true_eq] at h
        obtain ⟨rfl, h2⟩ := h
        have hx := opnd_VR hfr hG h2
        generalize opnd E.glob fr x = X at hx hr
        cases X <;> simp only [convIntV, hE, Force.not] at hr <;> try exact absurd hr.symm hf
        exact gv hs hE hfr hG hf hr (gives_convInt hs (hT.und _ _ hsrc) (hT.und _ _ hdst) hx.int_inv)
      · cases h
    · cases h
  | convId x =>
    simp only [stepOp] at hr
    simp only [okOp] at h
    split at h
    · split at h
      · rename_i hsrc hdst
        have hx := opnd_VR hfr hG h
        generalize opnd E.glob fr x = X at hx hr
        cases X <;> simp only [convIdV] at hr <;> try exact absurd hr.symm hf
        exact gv hs hE hfr hG hf hr (gives_convId hs (hT.und _ _ hsrc) (hT.und _ _ hdst) hx)
      · cases h
    · cases h
  | bytesToStr x =>
    simp only [stepOp] at hr
    simp only [okOp] at h
    split at h
    · split at h
      · rename_i hsrc hdst
        split at h
        · rename_i hel
          exact gv1 hs hE hfr hG hf (gives_bytesToStr hs hE hf (hT.und _ _ hsrc) (hT.und _ _ hel) (hT.und _ _ hdst) (opnd_VR hfr hG h) hr)
        · cases h
      · cases h
    · cases h
  | strToBytes x =>
    simp only [stepOp] at hr
    simp only [okOp] at h
    split at h
    · split at h
      · rename_i hsrc hdst
        split at h
        · rename_i hel
          exact gv1 hs hE hfr hG hf (gives_strToBytes hs hE hf (hT.und _ _ hsrc) (hT.und _ _ hdst) (hT.und _ _ hel) (opnd_VR hfr hG h) hr)
        · cases h
      · cases h
    · cases h
  | mkIface t x =>
    simp only [stepOp, hE, Force.not] at hr
    simp only [okOp] at h
    split at h
    · split at h
      · cases h
      · rename_i d hd ht
        simp only [Bool.and_eq_true] at h
        have := Nat.eq_of_beq_eq_true h.1
        subst this
        exact gv hs hE hfr hG hf hr (gives_mkIface hs (hT.und _ _ ht) (by cases d <;> first | rfl | exact absurd rfl (hd _)) (opnd_VR hfr hG h.2))
      · cases h
    · cases h
  | mkFunc f caps =>
    simp only [stepOp, hE, Force.not] at hr
    simp only [okOp] at h
    split at h
    · rename_i f' first caps'
      simp only [Bool.and_eq_true] at h
      have e1 := Nat.eq_of_beq_eq_true h.1.1
      have e2 : first = #[] := Array.eq_empty_of_size_eq_zero (Nat.eq_of_beq_eq_true h.1.2)
      subst e1
      subst e2
      have := gives_mkFunc (P := P) (ty := ty) hs (f := f) hfr hG h.2
      exact gv hs hE hfr hG hf hr (by simpa using this)
    · cases h
  | makeSlice z bytes l c =>
    simp only [stepOp] at hr
    simp only [okOp] at h
    split at h
    · split at h
      · rename_i ht
        simp only [Bool.and_eq_true, beq_iff_eq] at h
        obtain ⟨⟨⟨⟨⟨h1, h2⟩, h3⟩, h4⟩, h5⟩, h6⟩ := h
        exact gv2 hs hE hfr hG hf (gives_makeSlice hs hE hf (hT.und _ _ ht) (hT.zero h1) (hT.size h2) (hT.bytes h3) (by simpa [Nat.blt_eq] using h4) (opnd_VR hfr hG h5) (opnd_VR hfr hG h6) hr)
      · cases h
    · cases h
  | subStr x lo hi =>
    simp only [stepOp] at hr
    simp only [okOp] at h
    split at h
    · split at h
      · rename_i ht
        simp only [Bool.and_eq_true] at h
        exact gv1 hs hE hfr hG hf (gives_subStr hs hE hf hfr hG (hT.und _ _ ht) h.1.1 h.1.2 h.2 hr)
      · cases h
    · cases h
  | slice sz x lo hi mx =>
    simp only [stepOp] at hr
    simp only [okOp] at h
    split at h
    · split at h
      · rename_i ht
        simp only [Bool.and_eq_true, beq_iff_eq] at h
        obtain ⟨⟨⟨⟨⟨h1, h2⟩, h3⟩, h4⟩, h5⟩, h6⟩ := h
        exact gv1 hs hE hfr hG hf (gives_slice hs hE hf hfr hG (hT.und _ _ ht) (hT.size h1) h2 h3 h4 h5 (by
          intro hm
          rw [hm] at h6
          simpa using h6) hr)
      · cases h
    · cases h
  | fieldAddr off x =>
    simp only [stepOp] at hr
    simp only [okOp] at h
    split at h
    · split at h
      · rename_i ht
        split at h
        · rename_i hfi
          split at h
          · rename_i hz
            simp only [Bool.and_eq_true] at h
            exact gv1 hs hE hfr hG hf (gives_fieldAddr hs hE hf (hT.und _ _ ht) hfi (Nat.eq_of_beq_eq_true h.1.1) (hT.size hz) (by have := h.1.2; rw [Nat.blt_eq] at this; omega) (opnd_VR hfr hG h.2) hr)
          · cases h
        · cases h
      · cases h
    · cases h
  | field off n x =>
    simp only [stepOp] at hr
    simp only [okOp] at h
    split at h
    · split at h
      · rename_i ht
        split at h
        · rename_i hfi
          simp only [Bool.and_eq_true] at h
          exact gv1 hs hE hfr hG hf (gives_field hs hE hf (hT.und _ _ ht) hfi (Nat.eq_of_beq_eq_true h.1.1) (hT.load h.1.2) (opnd_VR hfr hG h.2) hr)
        · cases h
      · cases h
    · cases h
  | idxSl sz x i =>
    simp only [stepOp] at hr
    simp only [okOp] at h
    split at h
    · split at h
      · rename_i ht
        simp only [Bool.and_eq_true, beq_iff_eq] at h
        exact gv1 hs hE hfr hG hf (gives_idxSl hs hE hf (hT.und _ _ ht) (hT.size h.1.1) (opnd_VR hfr hG h.1.2) (opnd_VR hfr hG h.2) hr)
      · cases h
    · cases h
  | idxArr sz len x i =>
    simp only [stepOp] at hr
    simp only [okOp] at h
    split at h
    · split at h
      · rename_i ht
        simp only [Bool.and_eq_true, beq_iff_eq] at h
        have := Nat.eq_of_beq_eq_true h.1.1.1
        subst this
        exact gv1 hs hE hfr hG hf (gives_idxArr hs hE hf (hT.und _ _ ht) (hT.size h.1.1.2) (opnd_VR hfr hG h.1.2) (opnd_VR hfr hG h.2) hr)
      · cases h
    · cases h
  | idxStr x i =>
    simp only [stepOp] at hr
    simp only [okOp] at h
    split at h
    · split at h
      · rename_i ht
        simp only [Bool.and_eq_true] at h
        exact gv1 hs hE hfr hG hf (gives_idxStr hs hE hf (hT.und _ _ ht) (opnd_VR hfr hG h.1) (opnd_VR hfr hG h.2) hr)
      · cases h
    · cases h
  | idxAgg sz len n x i =>
    simp only [stepOp] at hr
    simp only [okOp] at h
    split at h
    · split at h
      · rename_i ht
        simp only [Bool.and_eq_true, beq_iff_eq] at h
        have := Nat.eq_of_beq_eq_true h.1.1.1.1
        subst this
        exact gv1 hs hE hfr hG hf (gives_idxAgg hs hE hf (hT.und _ _ ht) (hT.size h.1.1.1.2) (hT.load h.1.1.2) (opnd_VR hfr hG h.1.2) (opnd_VR hfr hG h.2) hr)
      · cases h
    · cases h
  | extract x i =>
    simp only [stepOp] at hr
    simp only [okOp] at h
    split at h
    · simp only [Bool.and_eq_true] at h
      have := Nat.eq_of_beq_eq_true h.1
      subst this
      have hx := opnd_VR hfr hG h.2
      generalize opnd E.glob fr x = X at hx hr
      cases X <;> simp only [extractV] at hr <;> try exact absurd hr.symm hf
      rename_i vs
      obtain ⟨v, h1, hk⟩ := oV_inv hs hE hfr hG hf hr
      obtain ⟨xs, ex, hl, hv⟩ := VR.tup_inv (x := a.eval _) hx
      have hi := (List.getElem?_eq_some_iff.1 h1).1
      exact gv hs hE hfr hG hf hk (gives_extract hs hx h1 ((hv i v _ h1 (List.getElem?_eq_getElem (by omega : i < xs.length))).pub_eq _))
    · cases h
  | call f xs =>
    simp only [stepOp, hE, Force.not] at hr
    simp only [okOp] at h
    split at h
    · rename_i c
      split at h
      · rename_i f' hc
        simp only [Bool.and_eq_true] at h
        have := Nat.eq_of_beq_eq_true h.1
        subst this
        exact callV_sound hs hE hC hfr hG hf (opnds_VRs hfr hG _ _ h.2) (fun dst pos after guard => by rw [exec_call ⟨_, hc, rfl⟩]; simp) hr
      · cases h
    · cases h
  | callP f xs =>
    simp only [stepOp, hE, Force.not] at hr
    simp only [okOp] at h
    split at h
    · rename_i c
      split at h
      · rename_i f' hc
        simp only [Bool.and_eq_true] at h
        have := Nat.eq_of_beq_eq_true h.1
        subst this
        exact callPV_sound hs hE hC hfr hG hf (opnds_VRs hfr hG _ _ h.2) (fun dst pos after guard => by rw [exec_call ⟨_, hc, rfl⟩]; simp) hr
      · cases h
    · cases h
  | callV g xs =>
    simp only [stepOp] at hr
    simp only [okOp] at h
    split at h
    · rename_i c
      split at h
      · rename_i g' hc
        simp only [Bool.and_eq_true] at h
        have hx := opnd_VR hfr hG h.1
        generalize opnd E.glob fr g = X at hx hr
        cases X <;> simp only [callFV, hE, Force.not] at hr <;> try exact absurd hr.symm hf
        obtain ⟨ys, ey, hv⟩ := VR.fn_inv (x := a.eval _) hx
        exact callV_sound hs hE hC hfr hG hf ((opnds_VRs hfr hG _ _ h.2).append hv) (fun dst pos after guard => by rw [exec_call ⟨_, hc, ey⟩]) hr
      · cases h
    · cases h
  | callVP g xs =>
    simp only [stepOp] at hr
    simp only [okOp] at h
    split at h
    · rename_i c
      split at h
      · rename_i g' hc
        simp only [Bool.and_eq_true] at h
        have hx := opnd_VR hfr hG h.1
        generalize opnd E.glob fr g = X at hx hr
        cases X <;> simp only [callFPV, hE, Force.not] at hr <;> try exact absurd hr.symm hf
        obtain ⟨ys, ey, hv⟩ := VR.fn_inv (x := a.eval _) hx
        exact callPV_sound hs hE hC hfr hG hf ((opnds_VRs hfr hG _ _ h.2).append hv) (fun dst pos after guard => by rw [exec_call ⟨_, hc, ey⟩]) hr
      · cases h
    · cases h
  | len b x =>
    simp only [stepOp] at hr
    simp only [okOp] at h
    split at h
    · split at h
      · rename_i ht
        simp only [Bool.and_eq_true] at h
        exact gv1 hs hE hfr hG hf (gives_len hs hE hf (hT.und _ _ ht) (.inl ⟨h.1, rfl⟩) (opnd_VR hfr hG h.2) hr)
      · rename_i el ht
        simp only [Bool.and_eq_true, Bool.not_eq_true'] at h
        exact gv1 hs hE hfr hG hf (gives_len hs hE hf (hT.und _ _ ht) (.inr ⟨h.1, el, rfl⟩) (opnd_VR hfr hG h.2) hr)
      · cases h
    · cases h
  | append sz bytes at_ x y =>
    simp only [stepOp, appendOp] at hr
    simp only [okOp] at h
    split at hr
    rotate_left
    · exact absurd hr.symm hf
    split at h
    · rename_i x' y' t t2
      split at h
      · rename_i el ht
        split at h
        · rename_i n b z hi
          simp only [Bool.and_eq_true] at h
          obtain ⟨⟨⟨⟨⟨⟨⟨h1, h2⟩, h3⟩, h4⟩, h5⟩, h6⟩, h7⟩, h8⟩ := h
          have e1 := Nat.eq_of_beq_eq_true h2
          have e2 := Nat.eq_of_beq_eq_true h3
          subst e1
          subst e2
          refine gv2 hs hE hfr hG hf (gives_append hs hE hf (z := z) ⟨hT.und _ _ ht, ?_, hT.info _ _ _ _ hi, Nat.eq_of_beq_eq_true h4, by simpa [Nat.blt_eq] using h5, Nat.le_of_ble_eq_true h6⟩ (opnd_VR hfr hG h7) (opnd_VR hfr hG h8) hr)
          split at h1
          · rename_i ht2; exact .inl ⟨_, hT.und _ _ ht2⟩
          · rename_i ht2; exact .inr (hT.und _ _ ht2)
          · cases h1
        · cases h
      · cases h
    · cases h
  | appendS sz bytes at_ x y =>
    simp only [stepOp, appendSOp] at hr
    split at hr
    rotate_left
    · exact absurd hr.symm hf
    rename_i hxe
    rw [← hxe] at hr
    simp only [appendOp] at hr
    simp only [okOp] at h
    split at hr
    rotate_left
    · exact absurd hr.symm hf
    split at h
    · rename_i x' y' t t2
      split at h
      · rename_i el ht
        split at h
        · rename_i n b z hi
          simp only [Bool.and_eq_true] at h
          obtain ⟨⟨⟨⟨⟨⟨⟨h1, h2⟩, h3⟩, h4⟩, h5⟩, h6⟩, h7⟩, h8⟩ := h
          have e1 := Nat.eq_of_beq_eq_true h2
          have e2 := Nat.eq_of_beq_eq_true h3
          subst e1
          subst e2
          refine gv2 hs hE hfr hG hf (gives_append hs hE hf (z := z) ⟨hT.und _ _ ht, ?_, hT.info _ _ _ _ hi, Nat.eq_of_beq_eq_true h4, by simpa [Nat.blt_eq] using h5, Nat.le_of_ble_eq_true h6⟩ (opnd_VR hfr hG h7) (opnd_VR hfr hG h8) hr)
          split at h1
          · rename_i ht2; exact .inl ⟨_, hT.und _ _ ht2⟩
          · rename_i ht2; exact .inr (hT.und _ _ ht2)
          · cases h1
        · cases h
      · cases h
    · cases h
  | appendR sz bytes at_ x y =>
    simp only [stepOp, appendROp] at hr
    simp only [okOp] at h
    split at hr
    rotate_left
    · exact absurd hr.symm hf
    split at h
    · rename_i x' y' t t2
      split at h
      · rename_i el ht
        split at h
        · rename_i n b z hi
          simp only [Bool.and_eq_true] at h
          obtain ⟨⟨⟨⟨⟨⟨⟨h1, h2⟩, h3⟩, h4⟩, h5⟩, h6⟩, h7⟩, h8⟩ := h
          have e1 := Nat.eq_of_beq_eq_true h2
          have e2 := Nat.eq_of_beq_eq_true h3
          subst e1
          subst e2
          refine gv2 hs hE hfr hG hf (gives_appendR hs hE hf (z := z) ⟨hT.und _ _ ht, ?_, hT.info _ _ _ _ hi, Nat.eq_of_beq_eq_true h4, by simpa [Nat.blt_eq] using h5, Nat.le_of_ble_eq_true h6⟩ (opnd_VR hfr hG h7) (opnd_VR hfr hG h8) hr)
          split at h1
          · rename_i ht2; exact .inl ⟨_, hT.und _ _ ht2⟩
          · rename_i ht2; exact .inr (hT.und _ _ ht2)
          · cases h1
        · cases h
      · cases h
    · cases h
  | buildSliceR sz ps =>
    simp only [stepOp, buildSliceRV, hE, Force.not] at hr
    simp only [okOp] at h
    obtain ⟨hb, hr1⟩ := bif_cases hr hf
    split at h
    · rename_i t len qs
      split at h
      · rename_i el ht
        simp only [Bool.and_eq_true, beq_iff_eq] at h
        obtain ⟨⟨⟨⟨⟨h1, h2⟩, h3⟩, h4⟩, h5⟩, h6⟩ := h
        obtain ⟨ys, e, hok⟩ := okPartsS_sound 0 ps qs.toList h6
        have hlen : ps.length = ys.length := by
          have : ∀ (ps : List AOpd) (qs : List Operand), okOpds ps qs = true → ps.length = qs.length := by
            intro ps
            induction ps with
            | nil => intro qs h; cases qs <;> simp [okOpds] at h ⊢
            | cons p ps ih => intro qs h; cases qs with
              | nil => simp [okOpds] at h
              | cons q qs => simp only [okOpds, Bool.and_eq_true] at h; simp [ih qs h.2]
          exact this ps ys hok
        have hl : len = ys.length := by rw [← hlen]; exact Nat.eq_of_beq_eq_true h4
        simp only [Bool.and_eq_true, List.all_eq_true, Nat.beq_eq_true_eq] at hb
        have h5' := Nat.le_of_ble_eq_true h5
        have := gives_buildSliceR (ty := ty) hs hfr hG (hT.und _ _ ht) (hT.size h1) (hT.zero h2) (Nat.eq_of_beq_eq_true h3) (by rw [← hl]; omega) hok rfl hb.1 (fun e he => ⟨(hb.2 e he).1, Nat.eq_of_beq_eq_true (hb.2 e he).2⟩)
        rw [← e] at this
        rw [hl]
        exact gv hs hE hfr hG hf hr1 (by simpa using this)
      · cases h
    · cases h
  | sliceA sz len x lo hi mx =>
    simp only [stepOp] at hr
    simp only [okOp] at h
    split at h
    · split at h
      · rename_i ht
        simp only [Bool.and_eq_true, beq_iff_eq] at h
        obtain ⟨⟨⟨⟨⟨⟨h0, h1⟩, h2⟩, h3⟩, h4⟩, h5⟩, h6⟩ := h
        have := Nat.eq_of_beq_eq_true h0
        subst this
        exact gv1 hs hE hfr hG hf (gives_sliceA hs hE hf hfr hG (hT.und _ _ ht) (hT.size h1) h2 h3 h4 h5 (by
          intro hm
          rw [hm] at h6
          simpa using h6) hr)
      · cases h
    · cases h
  | copy sz x y =>
    simp only [stepOp] at hr
    simp only [okOp] at h
    split at h
    · rename_i x' y' t t2
      split at h
      · rename_i el ht
        simp only [Bool.and_eq_true, beq_iff_eq] at h
        have hx := opnd_VR hfr hG h.1.2
        generalize opnd E.glob fr x = X at hx hr
        cases X <;> simp only [copyOp] at hr <;> try exact absurd hr.symm hf
        rename_i al off len cap q
        obtain ⟨hq, hr1⟩ := bif_cases hr hf
        have := Nat.eq_of_beq_eq_true hq
        subst this
        exact gv2 hs hE hfr hG hf (gives_copy hs hE hf (hT.und _ _ ht) (hT.size h.1.1) (fun a' off' len' cap' q' e => by cases e; rfl) hx (opnd_VR hfr hG h.2) hr1)
      · cases h
    · cases h
  | min xs =>
    simp only [stepOp] at hr
    simp only [okOp] at h
    split at h
    · rename_i c
      split at h
      · rename_i hc
        refine sound_fold hs hE hfr hG hf (g := Builtin.min2) min2_run h (fun x rest hY dst pos after guard => ?_) hr
        have hY' : (c.args.map a.eval).toList = x :: rest := by rw [Array.toList_map]; exact hY
        simp only [execOp, resolve, hc, pure_bind, invoke, builtin, Builtin.min_, hY']
      · cases h
    · cases h
  | max xs =>
    simp only [stepOp] at hr
    simp only [okOp] at h
    split at h
    · rename_i c
      split at h
      · rename_i hc
        refine sound_fold hs hE hfr hG hf (g := Builtin.max2) max2_run h (fun x rest hY dst pos after guard => ?_) hr
        have hY' : (c.args.map a.eval).toList = x :: rest := by rw [Array.toList_map]; exact hY
        simp only [execOp, resolve, hc, pure_bind, invoke, builtin, Builtin.max_, hY']
      · cases h
    · cases h
  | makeMap at_ =>
    simp only [stepOp] at hr
    simp only [okOp] at h
    split at h
    · exact gv2 hs hE hfr hG hf (gives_makeMap hs hE hf hr)
    · cases h
  | mapPut kd m x v =>
    simp only [stepOp] at hr
    simp only [okOp] at h
    have key : ∀ {t : TypeId} {m' x' v' : Operand} {o : Op}, (match T.und t with
      | some (.map kt _) =>
        match T.und kt with
        | some d => okKD kd d && okOpd m m' && okOpd x x' && okOpd v v'
        | none => false
      | _ => false) = true → (∀ dst pos after guard, execOp a.eval ⟨dst, o, ty, pos, after, guard⟩ = (do Instr.mapUpdate t (a.eval m') (a.eval x') (a.eval v'); pure .skip : Sem Next)) → ∃ v s', k v s' = r ∧ Does P o ty a.eval κ s w v s' := by
      intro t m' x' v' o h ho
      split at h
      · rename_i kt et ht
        split at h
        · rename_i d hd
          simp only [Bool.and_eq_true] at h
          exact gv2 hs hE hfr hG hf (gives_mapPut hs hE hf (hT.und _ _ ht) (hT.und _ _ hd) h.1.1.1 (opnd_VR hfr hG h.1.1.2) (opnd_VR hfr hG h.1.2) (opnd_VR hfr hG h.2) ho hr)
        · cases h
      · cases h
    split at h
    · exact key h (fun _ _ _ _ => rfl)
    · exact key h (fun _ _ _ _ => rfl)
    · cases h
  | lookup kd z ok m x =>
    simp only [stepOp] at hr
    simp only [okOp] at h
    split at h
    · split at h
      · rename_i kt et ht
        split at h
        · rename_i d n b Z hd hi
          simp only [Bool.and_eq_true, beq_iff_eq] at h
          obtain ⟨⟨⟨⟨h1, h2⟩, h3⟩, h4⟩, h5⟩ := h
          subst h3
          obtain ⟨i, i1, _, _, i2⟩ := hT.info _ _ _ _ hi
          exact gv1 hs hE hfr hG hf (gives_lookup hs hE hf (hT.und _ _ ht) (hT.und _ _ hd) h1 i1 i2 h2 (opnd_VR hfr hG h4) (opnd_VR hfr hG h5) hr)
        · cases h
      · cases h
    · cases h
  | callC ks f xs =>
    simp only [stepOp, hE, Force.not] at hr
    simp only [okOp] at h
    split at h
    · rename_i c
      split at h
      · rename_i f' hc
        simp only [Bool.and_eq_true] at h
        have := Nat.eq_of_beq_eq_true h.1
        subst this
        obtain ⟨v, s', e1, e2⟩ := callV_sound (ty := ty) (ρ := a.eval) (o := .call c) hs hE hC hfr hG hf (opnds_VRs hfr hG _ _ h.2) (fun dst pos after guard => by rw [exec_call ⟨_, hc, rfl⟩]; simp) hr
        exact ⟨v, s', bif_cases e1 hf |>.2, e2⟩
      · cases h
    · cases h
  | callVC ks g xs =>
    simp only [stepOp] at hr
    simp only [okOp] at h
    split at h
    · rename_i c
      split at h
      · rename_i g' hc
        simp only [Bool.and_eq_true] at h
        have hx := opnd_VR hfr hG h.1
        generalize opnd E.glob fr g = X at hx hr
        cases X <;> simp only [callFCV, hE, Force.not] at hr <;> try exact absurd hr.symm hf
        obtain ⟨ys, ey, hv⟩ := VR.fn_inv (x := a.eval _) hx
        obtain ⟨v, s', e1, e2⟩ := callV_sound (ty := ty) (ρ := a.eval) (o := .call c) hs hE hC hfr hG hf ((opnds_VRs hfr hG _ _ h.2).append hv) (fun dst pos after guard => by rw [exec_call ⟨_, hc, ey⟩]) hr
        exact ⟨v, s', bif_cases e1 hf |>.2, e2⟩
      · cases h
    · cases h
  | nilI neg x =>
    simp only [stepOp] at hr
    simp only [okOp] at h
    obtain ⟨v, h1, hk⟩ := oV_inv hs hE hfr hG hf hr
    split at h
    · split at h
      · rename_i ht
        simp only [Bool.and_eq_true, opEq, decide_eq_true_eq] at h
        exact gv hs hE hfr hG hf hk (gives_nilI hs h.1 (hT.und _ _ ht) (opnd_VR hfr hG h.2) rfl h1)
      · cases h
    · cases h
  | no => exact absurd hr.symm hf
end
end Go.Ab
end
section
/- What follows an operation does not touch what it does. -/
namespace Go.Ab
set_option linter.unusedSimpArgs false
set_option linter.unusedSectionVars false
set_option linter.unusedVariables false

def Res.bind (r : Res) (k kp : AV → St → Res) : Res :=
  match r with
  | .ok v s => k v s
  | .panic v s => kp v s
  | .fail => .fail

section
variable {E : Env} (hE : E.F = .not) (fr : Nat → AV) (s : St) (k kp : AV → St → Res)
include hE

theorem cond_bind (b : Bool) (r : Res) : (bif b then Res.bind r k kp else .fail) = Res.bind (bif b then r else .fail) k kp := by cases b <;> rfl
theorem oV_bind (v : Option AV) : oV E s k v = Res.bind (oV E s .ok v) k kp := by cases v <;> simp [oV, hE, Force.not, Res.bind]
theorem loadV_bind (m : Option Nat) (cs : List AV) : loadV E s k m cs = Res.bind (loadV E s .ok m cs) k kp := by
  cases m <;> simp only [loadV, hE, Force.not]
  · cases cs <;> rfl
  · cases Nat.ble _ _ <;> rfl
theorem storeV_bind (a : Loc) (off : Nat) (vs : List AV) : storeV E s k a off vs = Res.bind (storeV E s .ok a off vs) k kp := by
  simp only [storeV, hE, Force.not]
  cases s.get a with
  | none => rfl
  | some o =>
    cases o <;> try rfl
    simp only
    cases (_ && _ : Bool) <;> try rfl
    simp only [cond_true]
    cases s.set a _ <;> rfl
theorem subStrV_bind (x : AV) (lo hi : Option AOpd) : subStrV E fr s k x lo hi = Res.bind (subStrV E fr s .ok x lo hi) k kp := by
  cases x <;> simp only [subStrV, hE, Force.not] <;> try rfl
  cases bound E.glob fr lo 0 <;> try rfl
  cases bound E.glob fr hi _ <;> try rfl
  simp only
  cases (_ && _ : Bool) <;> rfl
theorem sliceV_bind (z : Nat) (x : AV) (lo hi mx : Option AOpd) : sliceV E fr s k z x lo hi mx = Res.bind (sliceV E fr s .ok z x lo hi mx) k kp := by
  cases x <;> simp only [sliceV, hE, Force.not] <;> try rfl
  · cases bound E.glob fr lo 0 <;> try rfl
    cases bound E.glob fr hi _ <;> try rfl
    cases mx with
    | none => simp only; cases (_ && _ : Bool) <;> rfl
    | some x =>
      simp only
      rename_i g _ _
      cases asNat (opnd E.glob fr x) <;> cases g <;> try rfl
      all_goals simp only; cases (_ && _ : Bool) <;> rfl
  · cases bound E.glob fr lo 0 <;> try rfl
    cases bound E.glob fr hi _ <;> try rfl
    cases bound E.glob fr mx _ <;> try rfl
    simp only; cases (_ && _ : Bool) <;> rfl
theorem appendRV_bind (q bytes : Nat) (b : Loc) (x y : AV) : appendRV E s k q bytes b x y = Res.bind (appendRV E s .ok q bytes b x y) k kp := by
  simp only [appendRV, hE, Force.not]
  cases y <;> try rfl
  rename_i z new _
  cases x <;> try rfl
  rename_i sz es g
  simp only
  cases (_ && _ : Bool) <;> try rfl
  simp only [cond_true]
  cases new <;> try rfl
  cases g <;> try rfl
  · simp only
    cases lowAt s b _ <;> try rfl
    simp only [cond_true]
    cases s.newBy b _ <;> rfl
  · simp only
    rename_i a
    cases s.get a <;> try rfl
    rename_i o
    cases o <;> try rfl
    simp only
    cases (_ && _ : Bool) <;> try rfl
    simp only [cond_true]
    cases s.set a _ <;> rfl
theorem sliceAV_bind (z n : Nat) (x : AV) (lo hi mx : Option AOpd) : sliceAV E fr s k z n x lo hi mx = Res.bind (sliceAV E fr s .ok z n x lo hi mx) k kp := by
  cases x <;> simp only [sliceAV, hE, Force.not] <;> try rfl
  cases bound E.glob fr lo 0 <;> try rfl
  cases bound E.glob fr hi _ <;> try rfl
  cases bound E.glob fr mx _ <;> try rfl
  simp only; cases (_ && _ : Bool) <;> rfl
theorem appendV_bind (q bytes : Nat) (b : Loc) (x y : AV) : appendV E s k q bytes b x y = Res.bind (appendV E s .ok q bytes b x y) k kp := by
  simp only [appendV, hE, Force.not]
  cases elemsOf s y with
  | none => rfl
  | some p =>
    obtain ⟨z, new⟩ := p
    cases x <;> try rfl
    · rename_i sz es g
      simp only
      cases (_ && _ : Bool) <;> try rfl
      simp only [cond_true]
      cases new <;> try rfl
      cases g <;> try rfl
      · simp only
        cases s.newBy b _ <;> rfl
      · simp only
        cases s.newBy b _ <;> rfl
      rename_i a
      simp only
      cases s.get a <;> try rfl
      rename_i o
      cases o <;> try rfl
      simp only
      cases (_ && _ : Bool) <;> try rfl
      simp only [cond_true]
      cases s.set a _ <;> rfl
    · rename_i a off len cap sz
      simp only
      cases s.get a <;> try rfl
      rename_i o
      cases o <;> try rfl
      simp only
      cases (_ && _ : Bool) <;> try rfl
      simp only [cond_true]
      cases s.set a _ <;> rfl
theorem mapPutV_bind (kd : KD) (m x v : AV) : mapPutV E s k kd m x v = Res.bind (mapPutV E s .ok kd m x v) k kp := by
  cases m <;> simp only [mapPutV, hE, Force.not] <;> try rfl
  cases s.get _ <;> try rfl
  rename_i o
  cases o <;> try rfl
  simp only
  cases (_ && _ : Bool) <;> try rfl
  simp only [cond_true]
  cases putKey x v _ <;> try rfl
  simp only
  cases s.set _ _ <;> rfl
theorem lookupV_bind (kd : KD) (z : AV) (ok : Bool) (m x : AV) : lookupV E s k kd z ok m x = Res.bind (lookupV E s .ok kd z ok m x) k kp := by
  simp only [lookupV, hE, Force.not]
  cases isKey kd x <;> try rfl
  simp only [cond_true]
  cases entriesOf s m <;> try rfl
  simp only
  cases findKey x _ <;> try rfl
  rename_i o
  cases o <;> rfl
theorem idxV_bind (sz : Nat) (x i : AV) : idxV E s k sz x i = Res.bind (idxV E s .ok sz x i) k kp := by
  simp only [idxV, hE, Force.not]
  cases asNat i <;> try rfl
  cases x <;> try rfl
  · simp only
    cases Nat.beq _ _ <;> try rfl
    simp only [cond_true]
    rename_i es _
    split <;> rfl
  · simp only
    cases (_ && _ : Bool) <;> rfl
theorem idxArrV_bind (sz len : Nat) (x i : AV) : idxArrV E s k sz len x i = Res.bind (idxArrV E s .ok sz len x i) k kp := by
  simp only [idxArrV, hE, Force.not]
  cases asNat i <;> try rfl
  simp only
  cases Nat.blt _ _ <;> try rfl
  cases x <;> rfl
theorem callV_bind (f : Nat) (args : List AV) : callV E s k kp f args = Res.bind (callV E s .ok .panic f args) k kp := by
  simp only [callV]
  cases E.call f args s <;> try rfl
  simp only
  cases Nat.beq _ _ <;> rfl
theorem callCV_bind (xs : List (Option Nat × AV)) (f : Nat) (args : List AV) : callCV E s k kp xs f args = Res.bind (callCV E s .ok .panic xs f args) k kp := by
  simp only [callCV, callV]
  cases E.call f args s <;> try rfl
  simp only
  cases Nat.beq _ _ <;> try rfl
  simp only [cond_true]
  cases xs.all _ <;> rfl
theorem callPV_bind (f : Nat) (args : List AV) : callPV E s k f args = Res.bind (callPV E s .ok f args) k kp := by
  simp only [callPV]
  cases AV.reflessL args <;> try rfl
  simp only [cond_true]
  cases E.call f args _ <;> try rfl
  rename_i v _
  simp only
  cases v.refless <;> rfl
theorem loadOp_bind (n : Option Nat) (v : AV) : loadOp E s k n v = Res.bind (loadOp E s .ok n v) k kp := by
  cases v <;> simp only [loadOp] <;> try rfl
  · rename_i a off
    cases s.get a <;> try rfl
    rename_i o
    cases o <;> try rfl
    exact loadV_bind hE s k kp _ _
  · exact loadV_bind hE s k kp _ _
theorem fieldAddrV_bind (off : Nat) (v : AV) : fieldAddrV E s k off v = Res.bind (fieldAddrV E s .ok off v) k kp := by
  cases v <;> simp only [fieldAddrV, hE, Force.not] <;> rfl
theorem fieldV_bind (off : Nat) (n : Option Nat) (v : AV) : fieldV E s k off n v = Res.bind (fieldV E s .ok off n v) k kp := by
  cases v <;> simp only [fieldV] <;> try rfl
  exact loadV_bind hE s k kp _ _
theorem idxStrV_bind (v i : AV) : idxStrV E s k v i = Res.bind (idxStrV E s .ok v i) k kp := by
  cases v <;> simp only [idxStrV, hE, Force.not] <;> try rfl
  cases asNat i <;> try rfl
  simp only
  split <;> rfl
theorem idxAggV_bind (sz len : Nat) (n : Option Nat) (v i : AV) : idxAggV E s k sz len n v i = Res.bind (idxAggV E s .ok sz len n v i) k kp := by
  cases v <;> simp only [idxAggV] <;> try rfl
  cases asNat i <;> try rfl
  simp only
  cases Nat.blt _ _ <;> try rfl
  exact loadV_bind hE s k kp _ _
theorem extractV_bind (i : Nat) (v : AV) : extractV E s k i v = Res.bind (extractV E s .ok i v) k kp := by
  cases v <;> simp only [extractV] <;> try rfl
  exact oV_bind hE s k kp _
theorem lenV_bind (b : Bool) (v : AV) : lenV E s k b v = Res.bind (lenV E s .ok b v) k kp := by
  cases b <;> cases v <;> simp only [lenV, hE, Force.not] <;> rfl
theorem copyV_bind (d x : AV) : copyV E s k d x = Res.bind (copyV E s .ok d x) k kp := by
  cases d <;> simp only [copyV, hE, Force.not] <;> try rfl
  rename_i a off len cap sz
  cases elemsOf s x <;> try rfl
  simp only
  cases s.get a <;> try rfl
  rename_i o
  cases o <;> try rfl
  simp only
  cases (_ && _ : Bool) <;> try rfl
  simp only [cond_true]
  cases s.set a _ <;> rfl
theorem copyOp_bind (q : Nat) (d x : AV) : copyOp E s k q d x = Res.bind (copyOp E s .ok q d x) k kp := by
  cases d <;> simp only [copyOp] <;> try rfl
  cases Nat.beq _ _ <;> first | rfl | skip
  simp only [cond_true]
  exact copyV_bind hE s k kp _ _
theorem makeV_bind (zero : List AV) (bytes : Nat) (l c : AV) : makeV E s k zero bytes l c = Res.bind (makeV E s .ok zero bytes l c) k kp := by
  simp only [makeV, hE, Force.not]
  cases asNat l <;> try rfl
  cases asNat c <;> try rfl
  simp only
  cases (_ && _ : Bool) <;> rfl
theorem storeOp_bind (n : Nat) (a v : AV) : storeOp E s k n a v = Res.bind (storeOp E s .ok n a v) k kp := by
  cases a <;> simp only [storeOp] <;> try rfl
  cases (_ && _ : Bool) <;> try rfl
  exact storeV_bind hE s k kp _ _ _
theorem convIntV_bind (d : IntKind) (v : AV) : convIntV E s k d v = Res.bind (convIntV E s .ok d v) k kp := by
  cases v <;> simp only [convIntV, hE, Force.not] <;> rfl
theorem convIdV_bind (v : AV) : convIdV s k v = Res.bind (convIdV s .ok v) k kp := by cases v <;> rfl
theorem strToBytesV_bind (v : AV) : strToBytesV E s k v = Res.bind (strToBytesV E s .ok v) k kp := by
  cases v <;> simp only [strToBytesV, hE, Force.not] <;> rfl
theorem bytesToStrV_bind (v : AV) : bytesToStrV E s k v = Res.bind (bytesToStrV E s .ok v) k kp := by
  cases v <;> first | rfl | (simp only [bytesToStrV]; cases elemsOf s _ <;> first | rfl | exact oV_bind hE s k kp _)
theorem pickV_bind (c a b : AV) : pickV E s k c a b = Res.bind (pickV E s .ok c a b) k kp := by
  cases c <;> simp only [pickV, hE, Force.not] <;> rfl
theorem nilCheckV_bind (v : AV) : nilCheckV E s k v = Res.bind (nilCheckV E s .ok v) k kp := by
  simp only [nilCheckV, hE, Force.not]
  cases isNil v <;> try rfl
  rename_i b
  cases b <;> rfl
theorem moveFV_bind (v : AV) : moveFV E s k v = Res.bind (moveFV E s .ok v) k kp := by
  cases v <;> simp only [moveFV, hE, Force.not] <;> try rfl
  rename_i a off len cap sz
  cases a <;> try rfl
  simp only
  rename_i i
  cases s.own[i]? <;> try rfl
  rename_i o
  cases o <;> try rfl
  simp only
  cases (_ && _ : Bool) <;> rfl
theorem buildSliceV_bind (sz : Nat) (es : List AV) : buildSliceV E s k sz es = Res.bind (buildSliceV E s .ok sz es) k kp := by
  simp only [buildSliceV, hE, Force.not]
  cases (_ && _ : Bool) <;> rfl
theorem callFV_bind (f : AV) (args : List AV) : callFV E s k kp f args = Res.bind (callFV E s .ok .panic f args) k kp := by
  cases f <;> simp only [callFV, hE, Force.not] <;> try rfl
  exact callV_bind hE s k kp _ _
theorem callFPV_bind (f : AV) (args : List AV) : callFPV E s k f args = Res.bind (callFPV E s .ok f args) k kp := by
  cases f <;> simp only [callFPV, hE, Force.not] <;> try rfl
  exact callPV_bind hE s k kp _ _
theorem foldOp_bind (f : AV → AV → Option AV) (xs : List AV) : foldOp E s k f xs = Res.bind (foldOp E s .ok f xs) k kp := by
  cases xs <;> simp only [foldOp] <;> try rfl
  exact oV_bind hE s k kp _

theorem stepOp_bind (op : AOp) : stepOp E fr s k kp op = Res.bind (stepOp E fr s .ok .panic op) k kp := by
  cases op <;> simp only [stepOp]
  case move => simp only [hE, Force.not]; rfl
  case moveF => exact moveFV_bind hE s k kp _
  case pick => exact pickV_bind hE s k kp _ _ _
  case alloc => simp only [hE, Force.not]; rfl
  case boxRo x => simp only [hE, Force.not]; cases (opnd E.glob fr x).isVal <;> rfl
  case boxMut x => simp only [hE, Force.not]; cases (opnd E.glob fr x).isVal <;> rfl
  case build => exact oV_bind hE s k kp _
  case buildSlice => exact buildSliceV_bind hE s k kp _ _
  case load => exact loadOp_bind hE s k kp _ _
  case store => exact storeOp_bind hE s k kp _ _ _
  case nilCheck => exact nilCheckV_bind hE s k kp _
  case bin => exact oV_bind hE s k kp _
  case eq => exact oV_bind hE s k kp _
  case un => exact oV_bind hE s k kp _
  case convInt => exact convIntV_bind hE s k kp _ _
  case convId => exact convIdV_bind hE s k kp _
  case bytesToStr => exact bytesToStrV_bind hE s k kp _
  case strToBytes => exact strToBytesV_bind hE s k kp _
  case mkIface => simp only [hE, Force.not]; rfl
  case mkFunc => simp only [hE, Force.not]; rfl
  case makeSlice => exact makeV_bind hE s k kp _ _ _ _
  case subStr => exact subStrV_bind hE fr s k kp _ _ _
  case slice => exact sliceV_bind hE fr s k kp _ _ _ _ _
  case fieldAddr => exact fieldAddrV_bind hE s k kp _ _
  case field => exact fieldV_bind hE s k kp _ _ _
  case idxSl => exact idxV_bind hE s k kp _ _ _
  case idxArr => exact idxArrV_bind hE s k kp _ _ _ _
  case idxStr => exact idxStrV_bind hE s k kp _ _
  case idxAgg => exact idxAggV_bind hE s k kp _ _ _ _ _
  case extract => exact extractV_bind hE s k kp _ _
  case call => simp only [hE, Force.not]; exact callV_bind hE s k kp _ _
  case callV => exact callFV_bind hE s k kp _ _
  case callP => simp only [hE, Force.not]; exact callPV_bind hE s k kp _ _
  case callVP => exact callFPV_bind hE s k kp _ _
  case len => exact lenV_bind hE s k kp _ _
  case append =>
    simp only [appendOp]
    cases atLoc E.glob fr _ <;> try rfl
    exact appendV_bind hE s k kp _ _ _ _ _
  case appendR =>
    simp only [appendROp]
    cases atLoc E.glob fr _ <;> try rfl
    exact appendRV_bind hE s k kp _ _ _ _ _
  case buildSliceR =>
    simp only [buildSliceRV, hE, Force.not]
    cases (_ && _ : Bool) <;> rfl
  case sliceA => exact sliceAV_bind hE fr s k kp _ _ _ _ _ _
  case appendS =>
    simp only [appendSOp]
    cases opnd E.glob fr _ <;> try rfl
    simp only [appendOp]
    cases atLoc E.glob fr _ <;> try rfl
    exact appendV_bind hE s k kp _ _ _ _ _
  case makeMap =>
    simp only [makeMapV, hE, Force.not]
    cases atLoc E.glob fr _ <;> try rfl
    simp only
    cases s.newBy _ _ <;> rfl
  case mapPut => exact mapPutV_bind hE s k kp _ _ _ _
  case lookup => exact lookupV_bind hE s k kp _ _ _ _ _
  case no => rfl
  case nilI => exact oV_bind hE s k kp _
  case callC => simp only [hE, Force.not]; exact callCV_bind hE s k kp _ _ _
  case callVC =>
    simp only [callFCV, hE, Force.not]
    cases opnd E.glob fr _ <;> try rfl
    exact callCV_bind hE s k kp _ _ _
  case copy => exact copyOp_bind hE s k kp _ _ _
  case min => exact foldOp_bind hE s k kp _ _
  case max => exact foldOp_bind hE s k kp _ _
end
end Go.Ab
end
