/- What the words come to at slices that grow and slices of the frame's own. -/
import Derived.Test.YtnafklimohmfkaaDoorSy
namespace Go.Ab
set_option linter.unusedSimpArgs false
variable {T : Nat → Option AFn} {G : Nat → AV} {X : Nat → List AV → St → Res} {s : St} {k : K1}

theorem zz_append (q b : Nat) (at_ : Option Loc) (x y : AV) : (PP T G X).append s k q b at_ x y = appendOp (EV G (callω T G X) loopω) s k q b at_ x y := rfl
theorem z_buildSlice (sz : Nat) (es : List AV) (h1 : AV.reflessL es = true) (h2 : (es.all fun e => e.isVal && Nat.beq e.cells.length sz) = true) : (PP T G X).buildSlice s k sz es = k (.sl sz es .exact) s := by
  show (bif AV.reflessL es && es.all (fun e => e.isVal && Nat.beq e.cells.length sz) then _ else _) = _
  rw [h1, h2]; rfl
theorem z_quo2 (kk : IntKind) (a : Int) : (PP T G X).val s k (binV .quo (.int kk a) (.int kk 2)) = k (.int kk (kk.wrap (a.tdiv 2))) s := by rw [b_quo _ _ _ (by omega)]; rfl
theorem z_bs_int (kk : IntKind) (n : Int) : (PP T G X).buildSlice s k 1 [.int kk n] = k (.sl 1 [.int kk n] .exact) s := rfl
theorem z_bs_str (b : List Nat) : (PP T G X).buildSlice s k 1 [.str b] = k (.sl 1 [.str b] .exact) s := rfl
theorem z_max2 (kk : IntKind) (a b : Int) : (PP T G X).fold s k max2 [.int kk a, .int kk b] = k (.int kk (if b > a then b else a)) s := rfl
theorem z_min2 (kk : IntKind) (a b : Int) : (PP T G X).fold s k min2 [.int kk a, .int kk b] = k (.int kk (if b < a then b else a)) s := rfl

/-- How a slice that is appended to lies in the frame. -/
inductive Grow (S : St) : Gr → Nat → Prop
  | nil : Grow S .nil 0
  | buf (j n : Nat) (hn : 0 < n) (h : S.own[j]? = some (.tok n)) : Grow S (.buf (.l j)) n
theorem Grow.inv {S : St} {g : Gr} {n : Nat} (h : Grow S g n) : (g = .nil ∧ n = 0) ∨ ∃ j, g = .buf (.l j) ∧ 0 < n ∧ S.own[j]? = some (.tok n) := by
  cases h with
  | nil => exact .inl ⟨rfl, rfl⟩
  | buf j n hn h => exact .inr ⟨j, rfl, hn, h⟩
theorem Grow.new {S : St} {g : Gr} {n : Nat} (h : Grow S g n) (o : AObj) : Grow (S.new o) g n := by
  cases h with
  | nil => exact .nil
  | buf j n hn h =>
    refine .buf j n hn ?_
    have hj := (List.getElem?_eq_some_iff.1 h).1
    simp only [St.new]
    rw [List.getElem?_append_left hj]
    exact h
/-- The frame behind an append: what else is there stays. -/
structure Grown (S S' : St) (g : Gr) : Prop where
  up : S'.up = S.up
  ro : S'.ro = S.ro
  len : S.own.length ≤ S'.own.length
  own : ∀ j o, S.own[j]? = some o → g ≠ .buf (.l j) → S'.own[j]? = some o
theorem Grown.child {s S S' : St} {g : Gr} (h : Grown S S' g) (hS : Child s S) : Child s S' := ⟨h.up.trans hS.up, h.ro.trans hS.ro⟩
theorem Grown.grow {S S' : St} {g g' : Gr} {n : Nat} (h : Grown S S' g) (hg : Grow S g' n) (hne : ∀ j, g' = .buf (.l j) → g ≠ .buf (.l j)) : Grow S' g' n := by
  cases hg with
  | nil => exact .nil
  | buf j n hn e => exact .buf j n hn (h.own j _ e (hne j rfl))
theorem Grown.depth {S S' : St} {g : Gr} (h : Grown S S' g) : S'.depth = S.depth := by simp [St.depth, h.up, h.ro]

theorem z_append {R : Res} {S : St} {es new : List AV} {g g2 : Gr} {q bytes : Nat} (hg : Grow S g es.length) (hn : new ≠ []) (hb : (es.length + new.length) * bytes ≤ 1099511627776) (hc : (new.flatMap AV.cells).all AV.isCell = true)
    (hk : ∀ g' S', Grow S' g' (es.length + new.length) → g' ≠ .nil → (g ≠ .nil → g' = g) → (g = .nil → g' = .buf (.l S.own.length)) → Grown S S' g → k (.sl q (es ++ new) g') S' = R) :
    (PP T G X).append S k q bytes (some (.l 0)) (.sl q es g) (.sl q new g2) = R := by
  rw [zz_append]
  unfold appendOp
  simp only
  unfold appendV
  simp only [elemsOf, Nat.beq_refl, Bool.true_and]
  rw [show Nat.ble ((es.length + new.length) * bytes) 1099511627776 = true from Nat.ble_eq_true_of_le hb]
  simp only [cond_true]
  cases new with
  | nil => exact absurd rfl hn
  | cons c cs =>
    rcases hg.inv with ⟨rfl, hes⟩ | ⟨j, rfl, hpos, h⟩
    · simp only [St.newBy]
      refine hk _ _ (.buf _ _ (by simp; omega) ?_) (by simp) (fun h => absurd rfl h) (fun _ => rfl) ⟨rfl, rfl, by simp [St.new], fun j o h _ => ?_⟩
      · simp [St.new]
      · simp only [St.new]
        rw [List.getElem?_append_left (List.getElem?_eq_some_iff.1 h).1]
        exact h
    · have e : S.get (.l j) = some (.tok es.length) := h
      simp only [e, Nat.beq_refl, hc, Bool.and_self, cond_true]
      show (match S.set (.l j) (.tok (es.length + (c :: cs).length)) with | some s => k (.sl q (es ++ c :: cs) (.buf (.l j))) s | none => .fail) = R
      simp only [St.set]
      refine hk _ _ (.buf _ _ (by simp; omega) ?_) (by simp) (fun _ => rfl) (fun h => by simp at h) ⟨rfl, rfl, by simp, fun i o hi hne => ?_⟩
      · simp [(List.getElem?_eq_some_iff.1 h).1]
      · have : j ≠ i := fun e => hne (by rw [e])
        simp only
        rw [List.getElem?_set_ne this]
        exact hi
/-- What is known of a slice that is handed back. -/
def gfin {α : Type} (l : List α) : Gr := if l.isEmpty then .nil else .any
theorem freeze_grow {S : St} {sz : Nat} {es : List AV} {g : Gr} (hg : Grow S g es.length) : freeze S (.sl sz es g) = some (.sl sz es (gfin es)) := by
  rcases hg.inv with ⟨rfl, h⟩ | ⟨j, rfl, hn, h⟩
  · have : es = [] := List.eq_nil_of_length_eq_zero h
    subst this; rfl
  · cases es with
    | nil => simp at hn
    | cons e es => rfl

/-! A slice of the frame's own. -/
theorem z_idx_msl {S : St} (a : Loc) (off len cap sz : Nat) (kk : IntKind) (i : Nat) (h : i < len) : (PP T G X).idx S k sz (.msl a off len cap sz) (.int kk (i : Int)) = k (.ref a (off + i * sz)) S := by
  show idxV (EV G (callω T G X) loopω) S k sz (.msl a off len cap sz) (.int kk (i : Int)) = _
  unfold idxV
  rw [asNat_nat]
  simp only [Nat.beq_refl, show Nat.blt i len = true from by simp [Nat.blt_eq, h], Bool.and_self, cond_true]
  rfl
theorem z_ld_own {S : St} {j o : Nat} {cs : List AV} {c : AV} (h : S.own[j]? = some (.cells cs)) (hc : cs[o]? = some c) : (PP T G X).load S k none (.ref (.l j) o) = k c S := by
  rw [zz_load]
  simp only [loadOp]
  rw [show S.get (.l j) = some (.cells cs) from h]
  simp only [loadV]
  have : cs.drop o = c :: cs.drop (o + 1) := by
    have ho := (List.getElem?_eq_some_iff.1 hc)
    rw [List.drop_eq_getElem_cons ho.1, ho.2]
  rw [this]
  rfl
theorem z_append_msl {S : St} {j len cap bytes : Nat} {cs : List AV} {e : AV} {g2 : Gr} (h : S.own[j]? = some (.cells cs)) (hl : len < cap) (hc : cs.length = cap) (he : e.isCell = true) (hr : e.cells = [e]) :
    (PP T G X).append S k 1 bytes (some (.l 0)) (.msl (.l j) 0 len cap 1) (.sl 1 [e] g2) = k (.msl (.l j) 0 (len + 1) cap 1) { S with own := S.own.set j (.cells (cs.set len e)) } := by
  rw [zz_append]
  unfold appendOp
  simp only
  unfold appendV
  simp only [elemsOf, List.length_cons, List.length_nil, Nat.zero_add, Nat.mul_one]
  rw [show S.get (.l j) = some (.cells cs) from h]
  simp only [List.flatMap_cons, List.flatMap_nil, hr, List.append_nil, List.all_cons, he, List.all_nil, Nat.beq_refl, show Nat.ble (len + 1) cap = true from Nat.ble_eq_true_of_le hl, show Nat.ble (len + 1) cs.length = true from Nat.ble_eq_true_of_le (by omega), Bool.and_self, Bool.true_and, Bool.and_true,
    show S.takes (.l j) [e] = true from by simp [St.takes, St.isOwn], cond_true]
  rfl
theorem flat_rep (z : AV) : ∀ c : Nat, (List.replicate c [z]).flatten = List.replicate c z
  | 0 => rfl
  | c + 1 => by simp [List.replicate_succ, flat_rep z c]
theorem z_make (z : AV) (bytes l c : Nat) (h1 : l ≤ c) (h2 : c * bytes ≤ 1099511627776) : (PP T G X).make s k [z] bytes (.int .i64 (l : Int)) (.int .i64 (c : Int)) = k (.msl (.l s.own.length) 0 l c 1) (s.new (.cells (List.replicate c z))) := by
  show makeV (EV G (callω T G X) loopω) s k [z] bytes (.int .i64 (l : Int)) (.int .i64 (c : Int)) = _
  unfold makeV
  rw [asNat_nat, asNat_nat]
  simp only [show Nat.ble l c = true from Nat.ble_eq_true_of_le h1, show Nat.ble (c * bytes) 1099511627776 = true from Nat.ble_eq_true_of_le h2, Bool.and_self, cond_true]
  show k _ (s.new (.cells (List.replicate c [z]).flatten)) = _
  rw [flat_rep]
  rfl
theorem chunk_one : ∀ (l : List AV), (∀ e, e ∈ l → e.cells = [e]) → chunk 1 l.length l = l
  | [], _ => rfl
  | c :: l, h => by
    simp only [List.length_cons, chunk, chunkHd, List.drop_succ_cons, List.drop_zero]
    rw [chunk_one l (fun e he => h e (by simp [he]))]
    have := h c (by simp)
    congr 1
    show chunk1 c = c
    cases c with
    | agg xs =>
      exfalso
      have h2 : xs = [AV.agg xs] := this
      have h3 := congrArg (SizeOf.sizeOf : List AV → Nat) h2
      simp only [List.cons.sizeOf_spec, List.nil.sizeOf_spec, AV.agg.sizeOf_spec] at h3
      omega
    | _ => rfl
theorem freeze_msl {S : St} {j n : Nat} {cs : List AV} (h : S.own[j]? = some (.cells cs)) (hc : cs.length = n) (hr : AV.reflessL cs = true) (h1 : ∀ e, e ∈ cs → e.cells = [e]) : freeze S (.msl (.l j) 0 n n 1) = some (.sl 1 cs .exact) := by
  show freezeOwn S j 0 n n 1 = _
  unfold freezeOwn
  rw [h]
  subst hc
  simp only [List.drop_zero, chunk_one cs h1, hr, Nat.zero_add, Nat.mul_one, show Nat.ble cs.length cs.length = true from Nat.ble_eq_true_of_le (Nat.le_refl _), Bool.true_and, if_pos rfl]
  rfl
end Go.Ab
