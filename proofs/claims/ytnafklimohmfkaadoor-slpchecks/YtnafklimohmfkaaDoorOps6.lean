/- Each operation of the abstract side is the machine's (6): nil, what is boxed, built, made, stored. -/
import Derived.Test.YtnafklimohmfkaaDoorOps5
import Derived.Laws.MakeOwn
import Derived.Laws.BytesArg
namespace Go.Ab
set_option linter.unusedSimpArgs false

theorem fold_splice (l : List Value) : ∀ (n : Nat) (cs : Array Value) (off : Nat), (l.zipIdx n).foldl (fun cs (p : Value × Nat) => cs.setIfInBounds (off + p.2) p.1) cs = (splice cs.toList (off + n) l).toArray := by
  induction l with
  | nil => intro n cs off; simp [splice]
  | cons v l ih =>
    intro n cs off
    simp only [List.zipIdx_cons, List.foldl_cons, splice]
    rw [ih (n + 1)]
    congr 1
    simp [Array.toList_setIfInBounds, Nat.add_assoc]
theorem fold_spliceA (C : Array Value) (cs : Array Value) (off : Nat) : C.zipIdx.foldl (fun cs (p : Value × Nat) => cs.setIfInBounds (off + p.2) p.1) cs = (splice cs.toList off C.toList).toArray := by
  rw [← Array.foldl_toList, Array.toList_zipIdx, fold_splice]
  simp

section
variable {P : Program} {ty : TypeId} {ρ : Operand → Value} {κ : Kap} {s : St} {w : World} (hs : Sim κ s w)

/-- Parts with their places. -/
def okParts (place : Nat → Option (Nat × Nat)) : List (Nat × Nat × AOpd) → List (Nat × Operand) → Bool
  | [], [] => true
  | (off, sz, x) :: ps, (i, y) :: qs => (place i == some (off, sz)) && okOpd x y && okParts place ps qs
  | _, _ => false

theorem fill_ok {G : Nat → AV} {fr : Nat → AV} {a : Act} (hfr : FR κ s fr a) (hG : GOK κ G) (place : Nat → Option (Nat × Nat)) : ∀ (ps : List (Nat × Nat × AOpd)) (qs : List (Nat × Operand)) (cs cs' : List AV) (xs : List Value),
    okParts place ps qs = true → VRs κ (s.depth + 1) cs xs → fillParts G s.depth fr cs ps = some cs' → ∃ xs', Instr.fill place xs.toArray (qs.map fun p => (p.1, a.eval p.2)) = some xs'.toArray ∧ VRs κ (s.depth + 1) cs' xs'
  | [], [], cs, cs', xs, _, h, hf => by
    simp only [fillParts, Option.some.injEq] at hf
    exact ⟨xs, rfl, hf ▸ h⟩
  | [], _ :: _, _, _, _, h, _, _ => by simp [okParts] at h
  | _ :: _, [], _, _, _, h, _, _ => by simp [okParts] at h
  | (off, sz, x) :: ps, (i, y) :: qs, cs, cs', xs, hok, h, hf => by
    simp only [okParts, Bool.and_eq_true, beq_iff_eq] at hok
    simp only [fillParts] at hf
    have hx := opnd_VR hfr hG hok.1.2
    generalize (opnd G fr x).pub s.depth = v at hx hf
    cases hb : (v.isVal && Nat.beq v.cells.length sz && Nat.ble (off + sz) cs.length) with
    | false => rw [hb] at hf; simp at hf
    | true =>
      rw [hb, cond_true] at hf
      simp only [Bool.and_eq_true] at hb
      have hv := hx.cells hb.1.1
      have h1 := Nat.eq_of_beq_eq_true hb.1.2
      have h2 := Nat.le_of_ble_eq_true hb.2
      have h3 := h.splice hv (o := off) (by omega)
      obtain ⟨xs', e, hv'⟩ := fill_ok hfr hG place ps qs _ cs' _ hok.2 h3 hf
      refine ⟨xs', ?_, hv'⟩
      have hsz : (a.eval y).cells.size = sz := by rw [← Array.length_toList, hv.1, h1]
      have hle : ¬ (off + (a.eval y).cells.size > xs.toArray.size) := by simp only [List.size_toArray, h.1, hsz]; omega
      have hle' : decide (off + (a.eval y).cells.size > xs.toArray.size) = false := decide_eq_false hle
      have hf2 := fold_spliceA (a.eval y).cells xs.toArray off
      simp only [List.map_cons, Instr.fill, hok.1.1, hsz, ne_eq, not_true_eq_false, decide_false, Bool.false_or]
      rw [← hsz, hle']
      simp only [Bool.false_eq_true, ↓reduceIte]
      rw [hf2]
      exact e

/-- The zero value of a type. -/
def okZero (P : Program) (t : TypeId) (z : List AV) : Bool :=
  match (P.info? t).bind (·.zero) with
  | some v => okVals z v.cells.toList
  | none => false
theorem run_zero {t : TypeId} {z : List AV} (h : okZero P t z = true) (w : World) : ∃ v, (zeroValue t).run P w = .ok v w ∧ (∀ κ D, VRs κ D z v.cells.toList) ∧ AV.reflessL z = true ∧ ∃ i, P.info? t = some i ∧ i.zero = some v := by
  unfold okZero at h
  cases hi : P.info? t with
  | none => simp [hi] at h
  | some i =>
    cases hz : i.zero with
    | none => simp [hi, hz] at h
    | some v =>
      simp only [hi, Option.bind_some, hz] at h
      obtain ⟨h1, h2⟩ := okVals_sound _ _ h
      exact ⟨v, by simp [zeroValue, typeInfo, hi, hz], h1, h2, i, rfl, hz⟩

include hs
theorem gives_new {v : Value} {t : TypeId} {o : Op} {cs : List AV} (hc : VRs κ (s.depth + 1) cs v.cells.toList) (h : ∀ dst pos after guard, (execOp ρ ⟨dst, o, ty, pos, after, guard⟩).run P w = .ok (.value (.pointer (some ⟨w.heap.size, 0, none⟩))) (w.alloc (.cells v.cells t))) :
    Gives P o ty ρ κ s w (.ref (.l s.own.length) 0) (s.new (.cells cs)) := by
  obtain ⟨κ', h1, h2, h3, h4⟩ := hs.allocCells cs v.cells t hc (w' := w.alloc (.cells v.cells t)) rfl rfl rfl rfl
  refine ⟨_, κ', _, .inl h, h2, h1, ?_⟩
  simp only [AV.pub, Loc.pub]
  rw [← h3]
  exact .ref _ _ _ (Nat.lt_succ_self _) h4

theorem gives_alloc {t : TypeId} {z : List AV} (hz : okZero P t z = true) : Gives P (.alloc t) ty ρ κ s w (.ref (.l s.own.length) 0) (s.new (.cells z)) := by
  obtain ⟨v, e, h1, _, _⟩ := run_zero hz w
  exact gives_new hs (v := v) (t := t) (h1 _ _) (fun _ _ _ _ => by simp [execOp, Instr.alloc, e, newVar, newRow])
theorem gives_boxMut {t : TypeId} {x : Operand} {v : AV} (hx : VR κ (s.depth + 1) (v.pub s.depth) (ρ x)) (hv : v.isVal = true) : Gives P (.box t x) ty ρ κ s w (.ref (.l s.own.length) 0) (s.new (.cells (v.pub s.depth).cells)) :=
  gives_new hs (v := ρ x) (t := t) (hx.cells (by rw [isVal_pub]; exact hv)) (fun _ _ _ _ => by simp [execOp, Instr.box, newVar, newRow])
theorem gives_frozen {C : Array Value} {t : TypeId} {o : Op} {cs : List AV} (hc : VRs κ (s.depth + 1) cs C.toList) (x : Addr → Value) (v : AV) (hxv : ∀ κ', KLe κ κ' (s.depth + 1) → (∀ j, j < cs.length → κ'.F ⟨w.heap.size, j, none⟩ = C[j]?) → VR κ' (s.depth + 1) (v.pub s.depth) (x ⟨w.heap.size, 0, none⟩))
    (h : ∀ dst pos after guard, (execOp ρ ⟨dst, o, ty, pos, after, guard⟩).run P w = .ok (.value (x ⟨w.heap.size, 0, none⟩)) (w.alloc (.cells C t))) : Gives P o ty ρ κ s w v s := by
  obtain ⟨h1, h2⟩ := hs.allocFrozen (w' := w.alloc (.cells C t)) C t (0, 0) rfl rfl rfl rfl
  have hl : C.size = cs.length := by simpa using hc.1
  refine ⟨_, _, _, .inl h, h2, h1, hxv _ h2.k (fun j hj => ?_)⟩
  rw [freeze_at (Nat.zero_le _) (by omega), Array.getElem?_eq_getElem (by omega)]
theorem gives_boxRo {t : TypeId} {x : Operand} {v : AV} (hx : VR κ (s.depth + 1) (v.pub s.depth) (ρ x)) (hv : v.isVal = true) : Gives P (.box t x) ty ρ κ s w (.vptr (v.pub s.depth).cells) s := by
  have hc := hx.cells (by rw [isVal_pub]; exact hv)
  refine gives_frozen hs (t := t) hc (fun a => .pointer (some a)) _ (fun κ' hk hF => ?_) (fun _ _ _ _ => by simp [execOp, Instr.box, newVar, newRow])
  refine .vptr _ _ (fun j => (ρ x).cells.getD j undef) rfl (fun j hj => ?_) (fun j c hj => ?_)
  · rw [add_spot rfl]
    simp only [Nat.zero_add]
    rw [hF j hj]
    have : j < (ρ x).cells.size := by have := hc.1; simp at this; omega
    simp [Array.getD, this]
  · obtain ⟨y, hy, hv'⟩ := hc.get hj
    have : (ρ x).cells.getD j undef = y := by
      have hy' : (ρ x).cells[j]? = some y := by simpa using hy
      simp [Array.getD_eq_getD_getElem?, hy']
    rw [this]
    exact hv'.mono hk

theorem gives_mkFunc {f : Nat} {cs : List AOpd} {caps : List Operand} {G : Nat → AV} {fr : Nat → AV} {a : Act} (hfr : FR κ s fr a) (hG : GOK κ G) (h : okOpds cs caps = true) :
    Gives P (.makeFunc (.func f) #[] caps.toArray) ty a.eval κ s w (.fn f (cs.map fun x => (opnd G fr x).pub s.depth)) s := by
  have key : ∀ (cs : List AOpd) (caps : List Operand), okOpds cs caps = true → VRs κ (s.depth + 1) (cs.map fun x => (opnd G fr x).pub s.depth) (caps.map a.eval) := by
    intro cs
    induction cs with
    | nil => intro caps h; cases caps with
      | nil => exact .nil _ _
      | cons _ _ => simp [okOpds] at h
    | cons c cs ih => intro caps h; cases caps with
      | nil => simp [okOpds] at h
      | cons y ys =>
        simp only [okOpds, Bool.and_eq_true] at h
        exact .cons (opnd_VR hfr hG h.1) (ih ys h.2)
  have hk := key cs caps h
  exact gives_same hs (.func (.func f) #[] (caps.map a.eval).toArray) (fun _ _ _ _ => by simp [execOp, Instr.makeFunc]) (.fn f _ _ hk.1 hk.2)

theorem gives_build_struct {G : Nat → AV} {fr : Nat → AV} {a : Act} (hfr : FR κ s fr a) (hG : GOK κ G) {t : TypeId} {z cs : List AV} {ps : List (Nat × Nat × AOpd)} {qs : List (Nat × Operand)} {fs : Array Field} (ht : P.underlying t = some (.struct fs)) (hz : okZero P t z = true)
    {pl : Array (Nat × Nat)} (hpl : (fs.toList.mapM fun f => (tySize P f.type).map fun n => (f.offset, n)) = some pl.toList) (hok : okParts (pl[·]?) ps qs = true) (hc : fillParts G s.depth fr z ps = some cs) :
    Gives P (.build t qs.toArray) ty a.eval κ s w (.agg cs) s := by
  obtain ⟨v, e, h1, _, _⟩ := run_zero hz w
  have hmap : ∀ (fs : List Field) (pl : List (Nat × Nat)), (fs.mapM fun f => (tySize P f.type).map fun n => (f.offset, n)) = some pl → (fs.mapM fun f => do pure (f.offset, ← sizeOf f.type) : Sem _).run P w = .ok pl w := by
    intro fs
    induction fs with
    | nil => intro pl h; simp at h; subst h; simp
    | cons f fs ih =>
      intro pl h
      simp only [List.mapM_cons, Option.bind_eq_bind, Option.bind_eq_some_iff, Option.pure_def, Option.some.injEq] at h
      obtain ⟨p, hp, ps, hps, rfl⟩ := h
      cases hsz : tySize P f.type with
      | none => simp [hsz] at hp
      | some n =>
        simp only [hsz, Option.map_some, Option.some.injEq] at hp
        subst hp
        have := ih ps hps
        simp only [bind_pure_comp] at this
        simp [List.mapM_cons, run_sizeOfB hsz, this]
  have hm : (fs.mapM fun f => do pure (f.offset, ← sizeOf f.type) : Sem _).run P w = .ok pl w := by
    rw [Array.mapM_eq_mapM_toList]
    have := hmap fs.toList pl.toList hpl
    simp only [bind_pure_comp] at this
    simp [this]
  obtain ⟨xs', e', hv⟩ := fill_ok hfr hG _ ps qs z cs v.cells.toList hok (h1 _ _) hc
  refine gives_same hs (.agg xs'.toArray) (fun _ _ _ _ => ?_) (.agg _ _ hv.1 hv.2)
  simp only [Array.toArray_toList] at e'
  simp only [bind_pure_comp] at hm
  simp [execOp, Instr.build, e, run_underlying ht, hm, e']

theorem gives_build_array {G : Nat → AV} {fr : Nat → AV} {a : Act} (hfr : FR κ s fr a) (hG : GOK κ G) {t el : TypeId} {len sz : Nat} {z cs : List AV} {ps : List (Nat × Nat × AOpd)} {qs : List (Nat × Operand)} (ht : P.underlying t = some (.array len el)) (hsz : tySize P el = some sz) (hz : okZero P t z = true)
    (hok : okParts (fun i => some (i * sz, sz)) ps qs = true) (hc : fillParts G s.depth fr z ps = some cs) :
    Gives P (.build t qs.toArray) ty a.eval κ s w (.agg cs) s := by
  obtain ⟨v, e, h1, _, _⟩ := run_zero hz w
  obtain ⟨xs', e', hv⟩ := fill_ok hfr hG _ ps qs z cs v.cells.toList hok (h1 _ _) hc
  refine gives_same hs (.agg xs'.toArray) (fun _ _ _ _ => ?_) (.agg _ _ hv.1 hv.2)
  simp only [Array.toArray_toList] at e'
  simp [execOp, Instr.build, e, run_underlying ht, run_sizeOfB hsz, e']

/-! ### Slices that are built and made -/
omit hs in
theorem fill_slice {G : Nat → AV} {fr : Nat → AV} {a : Act} (hfr : FR κ s fr a) (hG : GOK κ G) (sz : Nat) : ∀ (ps : List AOpd) (qs : List Operand) (i : Nat) (es : List AV) (pre : List Value) (rest : List Value),
    okOpds ps qs = true → es = ps.map (fun x => (opnd G fr x).pub s.depth) → (∀ e, e ∈ es → e.isVal = true ∧ e.cells.length = sz) → pre.length = i * sz → rest.length = qs.length * sz →
    ∃ xs, Instr.fill (fun i => some (i * sz, sz)) (pre ++ rest).toArray ((qs.zipIdx i).map fun p => (p.2, a.eval p.1)) = some (pre ++ xs).toArray ∧ VRs κ (s.depth + 1) (es.flatMap AV.cells) xs
  | [], [], i, es, pre, rest, _, he, _, _, hr => by
    subst he
    have : rest = [] := by simpa using hr
    subst this
    exact ⟨[], by simp [Instr.fill], .nil _ _⟩
  | [], _ :: _, _, _, _, _, h, _, _, _, _ => by simp [okOpds] at h
  | _ :: _, [], _, _, _, _, h, _, _, _, _ => by simp [okOpds] at h
  | x :: ps, y :: qs, i, es, pre, rest, hok, he, hes, hp, hr => by
    simp only [okOpds, Bool.and_eq_true] at hok
    subst he
    have hx := opnd_VR hfr hG hok.1
    obtain ⟨h1, h2⟩ := hes ((opnd G fr x).pub s.depth) (by simp)
    have hv := hx.cells h1
    have hsz : (a.eval y).cells.toList.length = sz := by rw [hv.1, h2]
    have hrl : rest.length = sz + qs.length * sz := by rw [hr, List.length_cons, Nat.succ_mul, Nat.add_comm]
    have hspl : splice (pre ++ rest) (i * sz) (a.eval y).cells.toList = (pre ++ (a.eval y).cells.toList) ++ rest.drop sz := by
      apply List.ext_getElem?
      intro j
      rw [splice_get _ _ _ (by simp only [List.length_append]; omega), hsz]
      by_cases hj1 : j < i * sz
      · rw [if_neg (by omega), List.append_assoc, List.getElem?_append_left (by omega), List.getElem?_append_left (by omega)]
      · by_cases hj2 : j < i * sz + sz
        · rw [if_pos ⟨by omega, hj2⟩, List.append_assoc, List.getElem?_append_right (by omega), List.getElem?_append_left (by omega), hp]
        · rw [if_neg (by omega), List.getElem?_append_right (by omega), List.getElem?_append_right (by simp only [List.length_append]; omega), List.getElem?_drop]
          congr 1
          simp only [List.length_append]
          omega
    obtain ⟨xs, e, hxs⟩ := fill_slice hfr hG sz ps qs (i + 1) _ (pre ++ (a.eval y).cells.toList) (rest.drop sz) hok.2 rfl (fun e he => hes e (by simp at he ⊢; exact .inr he)) (by simp only [List.length_append, hp, hsz, Nat.succ_mul]) (by simp only [List.length_drop]; omega)
    refine ⟨(a.eval y).cells.toList ++ xs, ?_, by simpa using hv.append hxs⟩
    have hszA : (a.eval y).cells.size = sz := by rw [← Array.length_toList]; exact hsz
    have hle : decide (i * sz + (a.eval y).cells.size > (pre ++ rest).toArray.size) = false := decide_eq_false (by simp only [List.size_toArray, List.length_append]; omega)
    have hf2 := fold_spliceA (a.eval y).cells (pre ++ rest).toArray (i * sz)
    rw [hspl] at hf2
    simp only [List.zipIdx_cons, List.map_cons, Instr.fill, hszA, ne_eq, not_true_eq_false, decide_false, Bool.false_or]
    rw [hszA] at hle
    rw [hle]
    simp only [Bool.false_eq_true, ↓reduceIte]
    rw [hf2, e, List.append_assoc]

omit hs in
theorem run_buildSlice {t el : TypeId} {sz n : Nat} {v : Value} {parts : Array (Nat × Value)} {xs : Array Value} (ht : P.underlying t = some (.slice el)) (hsz : tySize P el = some sz) (hv : (zeroValue el).run P w = .ok v w) (hbig : ¬ (n * sz > 2 ^ 24))
    (hf : Instr.fill (fun i => some (i * sz, sz)) ((Array.range (n * sz)).map (v.cells[· % v.cells.size]!)) parts.toList = some xs) : (Instr.buildSlice t n parts).run P w = .ok (.slice (some ⟨w.heap.size, 0, none⟩) n n) (w.alloc (.cells xs el)) := by
  unfold Instr.buildSlice
  simp only [Sem.run_bind, run_underlying ht, Result.andThen_ok, run_sizeOfB hsz]
  rw [if_neg hbig]
  by_cases h0 : n * sz = 0
  · have e0 : (Array.range (n * sz)).map (fun x => (#[] : Array Value)[x % (#[] : Array Value).size]!) = (Array.range (n * sz)).map (v.cells[· % v.cells.size]!) := by
      rw [h0]; simp
    rw [if_pos h0]
    simp only [Sem.run_bind, Sem.run_pure, Result.andThen_ok]
    rw [e0, hf]
    simp [newRow]
  · rw [if_neg h0]
    simp only [Sem.run_bind, hv, Result.andThen_ok, Sem.run_pure]
    rw [hf]
    simp [newRow]

theorem gives_buildSlice {G : Nat → AV} {fr : Nat → AV} {a : Act} (hfr : FR κ s fr a) (hG : GOK κ G) {t el : TypeId} {sz : Nat} {z : List AV} {ps : List AOpd} {qs : List Operand} (ht : P.underlying t = some (.slice el)) (hsz : tySize P el = some sz) (hz : okZero P el z = true) (hzl : z.length = sz)
    (hbig : ¬ (qs.length * sz > 2 ^ 24)) (hok : okOpds ps qs = true) (hr : AV.reflessL (ps.map (opnd G fr)) = true) (hv : ∀ e, e ∈ ps.map (opnd G fr) → e.isVal = true ∧ e.cells.length = sz) :
    Gives P (.buildSlice t qs.length (qs.zipIdx.map fun p => (p.2, p.1)).toArray) ty a.eval κ s w (.sl sz (ps.map (opnd G fr)) .exact) s := by
  obtain ⟨v, e, h1, _, _⟩ := run_zero hz w
  have hpub : ps.map (fun x => (opnd G fr x).pub s.depth) = ps.map (opnd G fr) := by
    apply List.map_congr_left
    intro x hx
    exact refless_pub (reflessL_iff.1 hr _ (List.mem_map_of_mem hx)) _
  have hvs : v.cells.size = sz := by rw [← Array.length_toList, (h1 κ 0).1, hzl]
  have hlen : (ps.map (opnd G fr)).length = qs.length := by
    have : ∀ (ps : List AOpd) (qs : List Operand), okOpds ps qs = true → ps.length = qs.length := by
      intro ps
      induction ps with
      | nil => intro qs h; cases qs <;> simp [okOpds] at h ⊢
      | cons p ps ih => intro qs h; cases qs with
        | nil => simp [okOpds] at h
        | cons q qs => simp only [okOpds, Bool.and_eq_true] at h; simp [ih qs h.2]
    simp [this ps qs hok]
  obtain ⟨xs, e', hxs⟩ := fill_slice hfr hG sz ps qs 0 (ps.map (opnd G fr)) [] ((Array.range (qs.length * sz)).map (v.cells[· % v.cells.size]!)).toList hok hpub.symm hv (by simp) (by simp)
  have hrun : ∀ dst pos after guard, (execOp a.eval ⟨dst, .buildSlice t qs.length (qs.zipIdx.map fun p => (p.2, p.1)).toArray, ty, pos, after, guard⟩).run P w = .ok (.value (.slice (some ⟨w.heap.size, 0, none⟩) qs.length qs.length)) (w.alloc (.cells xs.toArray el)) := by
    intro dst pos after guard
    simp only [List.nil_append, Array.toArray_toList] at e'
    have hrb := run_buildSlice (parts := ((qs.zipIdx.map fun p => (p.2, p.1)).toArray.map fun p => (p.1, a.eval p.2))) ht hsz e hbig (xs := xs.toArray) (by
      rw [Array.toList_map, List.map_map]
      exact e')
    have hx : ∀ (o : Oper), o.op = .buildSlice t qs.length (qs.zipIdx.map fun p => (p.2, p.1)).toArray → execOp a.eval o = (do pure (.value (← Instr.buildSlice t qs.length ((qs.zipIdx.map fun p => (p.2, p.1)).toArray.map fun p => (p.1, a.eval p.2)))) : Sem Next) := by
      intro o ho
      unfold execOp
      rw [ho]
    rw [hx _ rfl, Sem.run_bind, hrb]
    rfl
  have hc : VRs κ (s.depth + 1) ((ps.map (opnd G fr)).flatMap AV.cells) xs.toArray.toList := hxs
  generalize hop : Op.buildSlice t qs.length (qs.zipIdx.map fun p => (p.2, p.1)).toArray = op at hrun ⊢
  generalize hn : qs.length = n at hrun hlen
  generalize hes : ps.map (opnd G fr) = es at hc hlen hr hv ⊢
  clear hop hn e' hxs hpub hbig hok
  refine gives_frozen hs (t := el) hc (fun A => .slice (some A) n n) (.sl sz es .exact) (fun κ' hk hF => ?_) hrun
  simp only [AV.pub, Gr.pub]
  rw [← hlen]
  refine .sl sz _ .exact _ _ (fun j => xs.getD j undef) rfl (Nat.le_refl _) (fun _ => rfl) (fun e he => (hv e he).2) (fun e he => reflessL_iff.1 hr e he) (fun j hj => ?_) (fun j c hj => ?_)
  · rw [add_spot rfl]
    simp only [Nat.zero_add]
    rw [hF j hj]
    have hl : xs.length = (es.flatMap AV.cells).length := hc.1
    have : j < xs.length := by omega
    simp [List.getD, this]
  · obtain ⟨y, hy, hv'⟩ := hc.get hj
    have : xs.getD j undef = y := by
      have hy' : xs[j]? = some y := hy
      simp [List.getD, hy']
    rw [this]
    exact hv'.mono hk
end
end Go.Ab
