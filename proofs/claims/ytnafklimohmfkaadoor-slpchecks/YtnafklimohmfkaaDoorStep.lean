/- One operation of a region, abstract and machine's: a test that can be computed, and that it suffices. -/
import Derived.Test.YtnafklimohmfkaaDoorOps13
namespace Go.Ab
set_option linter.unusedSimpArgs false

/-- The types that the code names. -/
structure TT where
  und : Nat → Option TypeDesc
  info : Nat → Option (Nat × Nat × Value)
  az : Nat → List AV
structure TT.OK (T : TT) (P : Program) : Prop where
  und : ∀ t d, T.und t = some d → P.underlying t = some d
  info : ∀ t n b z, T.info t = some (n, b, z) → ∃ i, P.info? t = some i ∧ i.size = n ∧ i.bytes = b ∧ i.zero = some z

def TT.size (T : TT) (t : Nat) : Option Nat := (T.info t).map (·.1)
def TT.bytes (T : TT) (t : Nat) : Option Nat := (T.info t).map (·.2.1)
def TT.zero (T : TT) (t : Nat) (z : List AV) : Bool :=
  match T.info t with
  | some (_, _, v) => okVals z v.cells.toList
  | none => false
def TT.load (T : TT) (t : Nat) (n : Option Nat) : Bool :=
  match T.und t with
  | some d => match n with
    | none => aggD d == false
    | some n => aggD d == true && T.size t == some n
  | none => false

section
variable {P : Program} {T : TT} (hT : T.OK P)
include hT
theorem TT.OK.size {t n : Nat} (h : T.size t = some n) : tySize P t = some n := by
  unfold TT.size at h
  cases hi : T.info t with
  | none => rw [hi] at h; cases h
  | some p =>
    obtain ⟨n', b, z⟩ := p
    rw [hi] at h
    simp only [Option.map_some, Option.some.injEq] at h
    obtain ⟨i, h1, h2, _⟩ := hT.info _ _ _ _ hi
    simp [tySize, h1, h2, h]
theorem TT.OK.bytes {t n : Nat} (h : T.bytes t = some n) : (P.info? t).map (·.bytes) = some n := by
  unfold TT.bytes at h
  cases hi : T.info t with
  | none => rw [hi] at h; cases h
  | some p =>
    obtain ⟨n', b, z⟩ := p
    rw [hi] at h
    simp only [Option.map_some, Option.some.injEq] at h
    obtain ⟨i, h1, _, h2, _⟩ := hT.info _ _ _ _ hi
    simp [h1, h2, h]
theorem TT.OK.zero {t : Nat} {z : List AV} (h : T.zero t z = true) : okZero P t z = true := by
  unfold TT.zero at h
  cases hi : T.info t with
  | none => rw [hi] at h; cases h
  | some p =>
    obtain ⟨n', b, v⟩ := p
    rw [hi] at h
    obtain ⟨i, h1, _, _, h2⟩ := hT.info _ _ _ _ hi
    simp only [okZero, h1, Option.bind_some, h2]
    exact h
theorem TT.OK.load {t : Nat} {n : Option Nat} (h : T.load t n = true) : okLoad P t n = true := by
  unfold TT.load at h
  cases hd : T.und t with
  | none => rw [hd] at h; cases h
  | some d =>
    rw [hd] at h
    have := hT.und _ _ hd
    cases n with
    | none => simp only at h; simp [okLoad, tyAgg, this]; simpa using h
    | some n =>
      simp only [Bool.and_eq_true] at h
      have h2 := hT.size (by simpa using h.2 : T.size t = some n)
      simp [okLoad, tyAgg, this, h2]
      simpa using h.1
end

def okPartsS : Nat → List AOpd → List (Nat × Operand) → Bool
  | _, [], [] => true
  | i, x :: xs, (j, y) :: ys => Nat.beq i j && okOpd x y && okPartsS (i + 1) xs ys
  | _, _, _ => false
theorem okPartsS_sound : ∀ (i : Nat) (xs : List AOpd) (ys : List (Nat × Operand)), okPartsS i xs ys = true → ∃ qs : List Operand, ys = (qs.zipIdx i).map (fun p => (p.2, p.1)) ∧ okOpds xs qs = true
  | _, [], [], _ => ⟨[], rfl, rfl⟩
  | _, [], _ :: _, h => by simp [okPartsS] at h
  | _, _ :: _, [], h => by simp [okPartsS] at h
  | i, x :: xs, (j, y) :: ys, h => by
    simp only [okPartsS, Bool.and_eq_true] at h
    obtain ⟨qs, h1, h2⟩ := okPartsS_sound (i + 1) xs ys h.2
    have hij := Nat.eq_of_beq_eq_true h.1.1
    subst hij
    exact ⟨y :: qs, by simp [h1], by simp [okOpds, h.1.2, h2]⟩

def fieldsAt (T : TT) : List Field → Option (List (Nat × Nat))
  | [] => some []
  | f :: fs => (T.size f.type).bind fun n => (fieldsAt T fs).map fun l => (f.offset, n) :: l
theorem fieldsAt_sound {P : Program} {T : TT} (hT : T.OK P) : ∀ (fs : List Field) (l : List (Nat × Nat)), fieldsAt T fs = some l → (fs.mapM fun f => (tySize P f.type).map fun n => (f.offset, n)) = some l
  | [], l, h => by simp only [fieldsAt, Option.some.injEq] at h; subst h; rfl
  | f :: fs, l, h => by
    simp only [fieldsAt] at h
    cases hn : T.size f.type with
    | none => rw [hn] at h; cases h
    | some n =>
      rw [hn] at h
      cases hl : fieldsAt T fs with
      | none => rw [hl] at h; cases h
      | some l' =>
        rw [hl] at h
        simp only [Option.bind_some, Option.map_some, Option.some.injEq] at h
        subst h
        rw [List.mapM_cons]
        simp [hT.size hn, fieldsAt_sound hT fs l' hl]

def opEq (a b : BinOp) : Bool := decide (a = b)

/-- Is the abstract operation the machine's? -/
def okOp (T : TT) (ao : AOp) (op : Op) : Bool :=
  match ao with
  | .move x | .moveF x =>
    match op with
    | .move y | .assign y => okOpd x y
    | _ => false
  | .pick c a b =>
    match op with
    | .pick c' a' b' => okOpd c c' && okOpd a a' && okOpd b b'
    | _ => false
  | .alloc z =>
    match op with
    | .alloc t => T.zero t z
    | _ => false
  | .boxRo x | .boxMut x =>
    match op with
    | .box _ y => okOpd x y
    | _ => false
  | .build z ps =>
    match op with
    | .build t qs =>
      match T.und t with
      | some (.struct fs) =>
        match fieldsAt T fs.toList with
        | some pl => T.zero t z && okParts (pl.toArray[·]?) ps qs.toList
        | none => false
      | some (.array _ el) =>
        match T.size el with
        | some sz => T.zero t z && okParts (fun i => some (i * sz, sz)) ps qs.toList
        | none => false
      | _ => false
    | _ => false
  | .buildSlice sz ps =>
    match op with
    | .buildSlice t len qs =>
      match T.und t with
      | some (.slice el) =>
        T.size el == some sz && T.zero el (T.az el) && Nat.beq (T.az el).length sz && Nat.beq len ps.length && Nat.ble (len * sz) 16777216 && okPartsS 0 ps qs.toList
      | _ => false
    | _ => false
  | .load n x =>
    match op with
    | .load t y => T.load t n && okOpd x y
    | _ => false
  | .store n x v =>
    match op with
    | .store t y u => T.size t == some n && okOpd x y && okOpd v u
    | _ => false
  | .nilCheck x =>
    match op with
    | .nilCheck y => okOpd x y
    | _ => false
  | .bin o x y =>
    match op with
    | .binOp o' _ x' y' _ => opEq o o' && okOpd x x' && okOpd y y'
    | _ => false
  | .eq neg e x y =>
    match op with
    | .binOp o t x' y' _ =>
      match T.und t with
      | some d => opEq o (if neg then .neq else .eql) && okEK e d && okOpd x x' && okOpd y y'
      | none => false
    | _ => false
  | .un o x =>
    match op with
    | .unOp o' _ y => decide (o = o') && okOpd x y
    | _ => false
  | .convInt k x =>
    match op with
    | .convert src dst y =>
      match T.und src, T.und dst with
      | some _, some (.int k') => decide (k = k') && okOpd x y
      | _, _ => false
    | _ => false
  | .convId x =>
    match op with
    | .convert src dst y =>
      match T.und src, T.und dst with
      | some _, some .string => okOpd x y
      | _, _ => false
    | _ => false
  | .bytesToStr x =>
    match op with
    | .convert src dst y =>
      match T.und src, T.und dst with
      | some (.slice el), some .string =>
        match T.und el with
        | some (.int .u8) => okOpd x y
        | _ => false
      | _, _ => false
    | _ => false
  | .strToBytes x =>
    match op with
    | .convert src dst y =>
      match T.und src, T.und dst with
      | some .string, some (.slice el) =>
        match T.und el with
        | some (.int .u8) => okOpd x y
        | _ => false
      | _, _ => false
    | _ => false
  | .mkIface t x =>
    match op with
    | .makeInterface t' y =>
      match T.und t with
      | some (.interface _) => false
      | some _ => Nat.beq t t' && okOpd x y
      | none => false
    | _ => false
  | .mkFunc f caps =>
    match op with
    | .makeFunc (.func f') first caps' => Nat.beq f f' && Nat.beq first.size 0 && okOpds caps caps'.toList
    | _ => false
  | .makeSlice z bytes l c =>
    match op with
    | .makeSlice t l' c' =>
      match T.und t with
      | some (.slice el) => T.zero el z && T.size el == some z.length && T.bytes el == some bytes && Nat.blt 0 bytes && okOpd l l' && okOpd c c'
      | _ => false
    | _ => false
  | .subStr x lo hi =>
    match op with
    | .slice t y lo' hi' none =>
      match T.und t with
      | some .string => okOpd x y && okOpdO lo lo' && okOpdO hi hi'
      | _ => false
    | _ => false
  | .slice sz x lo hi mx =>
    match op with
    | .slice t y lo' hi' mx' =>
      match T.und t with
      | some (.slice el) => T.size el == some sz && okOpd x y && okOpdO lo lo' && okOpdO hi hi' && okOpdO mx mx' && (!mx.isSome || hi.isSome)
      | _ => false
    | _ => false
  | .fieldAddr off x =>
    match op with
    | .fieldAddr t y i =>
      match T.und t with
      | some (.struct fs) =>
        match fs[i]? with
        | some f =>
          match T.size f.type with
          | some n => Nat.beq f.offset off && Nat.blt 0 n && okOpd x y
          | none => false
        | none => false
      | _ => false
    | _ => false
  | .field off n x =>
    match op with
    | .field t y i =>
      match T.und t with
      | some (.struct fs) =>
        match fs[i]? with
        | some f => Nat.beq f.offset off && T.load f.type n && okOpd x y
        | none => false
      | _ => false
    | _ => false
  | .idxSl sz x i =>
    match op with
    | .indexAddr t y j =>
      match T.und t with
      | some (.slice el) => T.size el == some sz && okOpd x y && okOpd i j
      | _ => false
    | _ => false
  | .idxArr sz len x i =>
    match op with
    | .indexAddr t y j =>
      match T.und t with
      | some (.array n el) => Nat.beq n len && T.size el == some sz && okOpd x y && okOpd i j
      | _ => false
    | _ => false
  | .idxStr x i =>
    match op with
    | .index t y j =>
      match T.und t with
      | some .string => okOpd x y && okOpd i j
      | _ => false
    | _ => false
  | .idxAgg sz len n x i =>
    match op with
    | .index t y j =>
      match T.und t with
      | some (.array m el) => Nat.beq m len && T.size el == some sz && T.load el n && okOpd x y && okOpd i j
      | _ => false
    | _ => false
  | .extract x i =>
    match op with
    | .extract y j => Nat.beq i j && okOpd x y
    | _ => false
  | .call f xs | .callP f xs =>
    match op with
    | .call c =>
      match c.callee with
      | .value (.func f') => Nat.beq f f' && okOpds xs c.args.toList
      | _ => false
    | _ => false
  | .callV f xs | .callVP f xs =>
    match op with
    | .call c =>
      match c.callee with
      | .value g => okOpd f g && okOpds xs c.args.toList
      | _ => false
    | _ => false
  | .len b x =>
    match op with
    | .call { callee := .builtin .len, args := ⟨[y]⟩, argTypes := ⟨[t]⟩ } =>
      match T.und t with
      | some .string => b && okOpd x y
      | some (.slice _) => !b && okOpd x y
      | _ => false
    | _ => false
  | .append sz bytes _ x y =>
    match op with
    | .call { callee := .builtin .append, args := ⟨[x', y']⟩, argTypes := ⟨[t, t2]⟩ } =>
      match T.und t with
      | some (.slice el) =>
        match T.info el with
        | some (n, b, z) =>
          (match T.und t2 with
            | some (.slice _) | some .string => true
            | _ => false) && Nat.beq n sz && Nat.beq b bytes && Nat.beq z.cells.size sz && Nat.blt 0 bytes && Nat.ble bytes 1048576 && okOpd x x' && okOpd y y'
        | none => false
      | _ => false
    | _ => false
  | .copy sz x y =>
    match op with
    | .call { callee := .builtin .copy, args := ⟨[x', y']⟩, argTypes := ⟨[t, _]⟩ } =>
      match T.und t with
      | some (.slice el) => T.size el == some sz && okOpd x x' && okOpd y y'
      | _ => false
    | _ => false
  | .min xs =>
    match op with
    | .call c =>
      match c.callee with
      | .builtin .min => okOpds xs c.args.toList
      | _ => false
    | _ => false
  | .max xs =>
    match op with
    | .call c =>
      match c.callee with
      | .builtin .max => okOpds xs c.args.toList
      | _ => false
    | _ => false
  | .makeMap _ =>
    match op with
    | .makeMap _ none => true
    | _ => false
  | .mapPut kd m x v =>
    match op with
    | .mapUpdate t m' x' v' | .insert t m' x' v' =>
      match T.und t with
      | some (.map kt _) =>
        match T.und kt with
        | some d => okKD kd d && okOpd m m' && okOpd x x' && okOpd v v'
        | none => false
      | _ => false
    | _ => false
  | .lookup kd z ok m x =>
    match op with
    | .lookup t m' x' ok' =>
      match T.und t with
      | some (.map kt et) =>
        match T.und kt, T.info et with
        | some d, some (_, _, Z) => okKD kd d && okVal z Z && (ok == ok') && okOpd m m' && okOpd x x'
        | _, _ => false
      | _ => false
    | _ => false
  | .callC _ f xs =>
    match op with
    | .call c =>
      match c.callee with
      | .value (.func f') => Nat.beq f f' && okOpds xs c.args.toList
      | _ => false
    | _ => false
  | .callVC _ f xs =>
    match op with
    | .call c =>
      match c.callee with
      | .value g => okOpd f g && okOpds xs c.args.toList
      | _ => false
    | _ => false
  | .nilI neg x =>
    match op with
    | .binOp o t x' (.const .nilIface) _ =>
      match T.und t with
      | some (.interface _) => opEq o (if neg then .neq else .eql) && okOpd x x'
      | _ => false
    | _ => false
  | .no => true
end Go.Ab
