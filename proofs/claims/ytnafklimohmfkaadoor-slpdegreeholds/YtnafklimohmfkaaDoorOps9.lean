/- Each operation of the abstract side is the machine's (9): what is appended and copied. -/
import Derived.Test.YtnafklimohmfkaaDoorOps1
import Derived.Laws.IdiomStrings
import Derived.MapKept
section
/- Each operation of the abstract side is the machine's (9): what is appended and copied. -/
namespace Go.Ab
set_option linter.unusedSimpArgs false

section
variable {P : Program} {ty : TypeId} {ρ : Operand → Value} {κ : Kap} {s : St} {w : World} (hs : Sim κ s w)

theorem bytes_cells (b : ByteArray) (n : Nat) (κ : Kap) (D : Nat) : VRs κ D (((b.data.toList.map UInt8.toNat).take n).map fun m => AV.int .u8 (m : Nat)) ((b.extract 0 n).data.map fun c => Value.int .u8 c.toNat).toList := by
  have h0 : (b.extract 0 n).data.toList = b.data.toList.take n := by rw [take_drop_bytes]; simp
  have hl : b.data.toList.length = b.size := Array.length_toList
  refine ⟨?_, fun j c x hc hx => ?_⟩
  · rw [Array.toList_map, List.length_map, h0]; simp only [List.length_map, List.length_take]
  · rw [Array.toList_map, h0, List.getElem?_map] at hx
    rw [← List.map_take, List.map_map, List.getElem?_map] at hc
    cases hq : (b.data.toList.take n)[j]? with
    | none => rw [hq] at hx; cases hx
    | some q =>
      rw [hq] at hx hc
      simp only [Option.map_some, Option.some.injEq, Function.comp] at hx hc
      rw [← hx, ← hc]
      exact .int _ _

/-- The first so many elements of a slice or a string, in the machine. -/
theorem run_elems {X : Value} {sz : Nat} {es : List AV} {v : AV} (h : (∃ bs a, v = .str bs ∧ X = .string a ∧ a.data.toList.map UInt8.toNat = bs ∧ sz = 1 ∧ es = bs.map fun b => .int .u8 (b : Nat)) ∨
     (∃ A c, X = .slice A es.length c ∧ (A = none → es = []) ∧ ∀ a, A = some a → Reads κ (s.depth + 1) w a (es.flatMap AV.cells))) (hsz : ∀ e, e ∈ es → e.cells.length = sz) (n : Nat) (hn : n ≤ es.length) (w' : World) (hw : ∀ a, w'.cell? a = w.cell? a) :
    (Builtin.lenOf X).run P w' = .ok es.length w' ∧ ∃ xs : List Value, (Builtin.firstCells sz n X).run P w' = .ok xs.toArray w' ∧ VRs κ (s.depth + 1) ((es.take n).flatMap AV.cells) xs := by
  rcases h with ⟨bs, a, _, rfl, hb, rfl, rfl⟩ | ⟨A, c, rfl, h1, h2⟩
  · have hsz' : a.size = bs.length := by have := congrArg List.length hb; rw [List.length_map, Array.length_toList] at this; exact this
    simp only [List.length_map] at hn ⊢
    refine ⟨by simp [Builtin.lenOf, hsz'], ((a.extract 0 n).data.map fun c => Value.int .u8 c.toNat).toList, by simp only [Builtin.firstCells, Array.toArray_toList, Sem.run_pure], ?_⟩
    have := bytes_cells a n κ (s.depth + 1)
    rw [hb] at this
    have e : (List.map (fun b => AV.int IntKind.u8 ((b : Nat) : Int)) bs).take n = (bs.take n).map fun m => AV.int .u8 (m : Nat) := by rw [List.map_take]
    rw [e]
    have e2 : ∀ l : List Nat, (l.map fun m => AV.int .u8 (m : Nat)).flatMap AV.cells = l.map fun m => AV.int .u8 (m : Nat) := by
      intro l
      induction l with
      | nil => rfl
      | cons x l ih => simp [List.flatMap_cons, ih, AV.cells]
    rw [e2]
    exact this
  · refine ⟨by simp [Builtin.lenOf], ?_⟩
    cases A with
    | none =>
      have := h1 rfl
      subst this
      have : n = 0 := by simpa using hn
      subst this
      exact ⟨[], by simp [Builtin.firstCells], .nil _ _⟩
    | some a =>
      have hr := h2 a rfl
      have hfl := flat_len es sz hsz
      have hr' : Reads κ (s.depth + 1) w' a (es.flatMap AV.cells) := by
        obtain ⟨vals, r1, r2⟩ := hr
        exact ⟨vals, fun j hj => by rw [hw]; exact r1 j hj, r2⟩
      have hle : n * sz ≤ (es.flatMap AV.cells).length := by rw [hfl]; exact Nat.mul_le_mul_right _ hn
      obtain ⟨xs, e, hx⟩ := reads_load (P := P) hr' hle
      refine ⟨xs, by simp only [Builtin.firstCells]; exact e, ?_⟩
      have : (es.flatMap AV.cells).take (n * sz) = (es.take n).flatMap AV.cells := by
        have h3 : es.flatMap AV.cells = (es.take n).flatMap AV.cells ++ (es.drop n).flatMap AV.cells := by
          rw [← List.flatMap_append, List.take_append_drop]
        have h4 : ((es.take n).flatMap AV.cells).length = n * sz := by
          rw [flat_len _ sz (fun e he => hsz e (List.mem_of_mem_take he)), List.length_take, Nat.min_eq_left hn]
        rw [h3, ← h4, List.take_left]
      rw [← this]
      exact hx

theorem growBy_le (need : Nat) : ∀ (r c : Nat), Builtin.growBy need r c ≤ max c (need + (need + 768) / 4) := by
  intro r
  induction r with
  | zero => intro c; simp only [Builtin.growBy]; omega
  | succ r ih =>
    intro c
    simp only [Builtin.growBy]
    split
    · omega
    · have := ih (c + (c + 768) / 4)
      omega
theorem nextslicecap_le {need old : Nat} (h : old < need) : Builtin.nextslicecap need old ≤ 2 * need + 400 := by
  unfold Builtin.nextslicecap
  split
  · omega
  · split
    · omega
    · have := growBy_le need 4 old
      omega

/-- What is known of an append's types. -/
structure AppTy (P : Program) (t t2 el : TypeId) (sz bytes : Nat) (z : Value) : Prop where
  ht : P.underlying t = some (.slice el)
  ht2 : (∃ e', P.underlying t2 = some (.slice e')) ∨ P.underlying t2 = some .string
  info : ∃ i, P.info? el = some i ∧ i.size = sz ∧ i.bytes = bytes ∧ i.zero = some z
  zsz : z.cells.size = sz
  b0 : 0 < bytes
  b1 : bytes ≤ 1048576

theorem AppTy.size {t t2 el : TypeId} {sz bytes : Nat} {z : Value} (h : AppTy P t t2 el sz bytes z) : tySize P el = some sz := by
  obtain ⟨i, h1, h2, _⟩ := h.info
  simp [tySize, h1, h2]

/-- An append that has room. -/
theorem run_append_fits {t t2 el : TypeId} {sz bytes : Nat} {z : Value} (h : AppTy P t t2 el sz bytes z) {base : Option Addr} {sLen sCap n : Nat} {X : Value} {xs : List Value} (hl : (Builtin.lenOf X).run P w = .ok n w) (hc : (Builtin.firstCells sz n X).run P w = .ok xs.toArray w) (hn : sLen + n ≤ sCap)
    {w' : World} (hst : match base with
      | some a => (storeCells (a.add (sLen * sz)) xs).run P w = .ok () w'
      | none => w' = w) : (Builtin.append_ #[t, t2] ty #[.slice base sLen sCap, X]).run P w = .ok (.slice base (sLen + n) sCap) w' := by
  cases base with
  | none =>
    subst hst
    rcases h.ht2 with ⟨e', hd⟩ | hd <;> simp [Builtin.append_, run_underlying h.ht, run_underlying hd, run_sizeOfB h.size, hl, hc, hn]
  | some a =>
    simp only at hst
    rcases h.ht2 with ⟨e', hd⟩ | hd <;> simp [Builtin.append_, run_underlying h.ht, run_underlying hd, run_sizeOfB h.size, hl, hc, hn, hst]

/-- An append that has none: a new block. -/
theorem run_append_grows {t t2 el : TypeId} {sz bytes : Nat} {z : Value} (h : AppTy P t t2 el sz bytes z) {base : Option Addr} {sLen sCap n : Nat} {X : Value} {os xs : List Value} (hl : (Builtin.lenOf X).run P w = .ok n w)
    (hc : (Builtin.firstCells sz n X).run P w.drew = .ok xs.toArray w.drew) (ho : (Builtin.firstCells sz sLen (.slice base sLen sCap)).run P w.drew = .ok os.toArray w.drew)
    (hxl : xs.length = n * sz) (hol : os.length = sLen * sz) (hn : sCap < sLen + n) (hb : (sLen + n) * bytes ≤ 1099511627776) :
    ∃ cap C, sLen + n ≤ cap ∧ C.size = cap * sz ∧ (∀ j, j < (sLen + n) * sz → C[j]? = (os ++ xs)[j]?) ∧
      (Builtin.append_ #[t, t2] ty #[.slice base sLen sCap, X]).run P w = .ok (.slice (some ⟨w.heap.size, 0, none⟩) (sLen + n) cap) (w.drew.alloc (.cells C el)) := by
  obtain ⟨i, hi, hisz, hib, hiz⟩ := h.info
  have hneed : (sLen + n) * 1 ≤ (sLen + n) * bytes := Nat.mul_le_mul_left _ h.b0
  have hnot : ¬ (sLen + n ≤ sCap) := by omega
  have hcapb : Builtin.nextslicecap (sLen + n) sCap * bytes ≤ 281474976710656 := by
    have h1 := nextslicecap_le hn
    have h2 : Builtin.nextslicecap (sLen + n) sCap * bytes ≤ (2 * (sLen + n) + 400) * bytes := Nat.mul_le_mul_right _ h1
    have h3 : (2 * (sLen + n) + 400) * bytes = 2 * ((sLen + n) * bytes) + 400 * bytes := by rw [Nat.add_mul, Nat.mul_assoc]
    have h4 := h.b1
    omega
  let cap := (Question.appendCap (sLen + n) sCap el).cut (w.tape w.drawn (.appendCap (sLen + n) sCap el))
  have hcap : sLen + n ≤ cap := by simp only [cap, Question.cut]; omega
  let C : Array Value := os.toArray ++ xs.toArray ++ Builtin.zeroCells z.cells (cap - (sLen + n))
  have hCs : C.size = cap * sz := by
    have e1 : (sLen + n) * sz + (cap - (sLen + n)) * sz = cap * sz := by rw [← Nat.add_mul]; congr 1; omega
    have e2 : sLen * sz + n * sz = (sLen + n) * sz := by rw [Nat.add_mul]
    simp only [C, Array.size_append, List.size_toArray, hxl, hol, Builtin.zeroCells, Array.size_map, Array.size_range, h.zsz]
    omega
  refine ⟨cap, C, hcap, hCs, fun j hj => ?_, ?_⟩
  · have e2 : sLen * sz + n * sz = (sLen + n) * sz := by rw [Nat.add_mul]
    simp only [C]
    rw [Array.getElem?_append_left (by simp only [Array.size_append, List.size_toArray, hxl, hol]; omega)]
    simp
  · have h63 : ¬ (9223372036854775807 < ((sLen : Int) + (n : Int))) := by omega
    have h48 : ¬ (281474976710656 < Builtin.nextslicecap (sLen + n) sCap * i.bytes) := by rw [hib]; omega
    have hq : (Question.appendCap (sLen + n) sCap el).forced = false := rfl
    have hnot' : ¬ (sLen + n ≤ sCap) := hnot
    rcases h.ht2 with ⟨e', hd⟩ | hd <;> simp [Builtin.append_, run_underlying h.ht, run_underlying hd, run_sizeOfB h.size, typeInfo, hi, hl, hnot', h63, h48, hq, hc, ho, zeroValue, hiz, newRow, C, cap]
end
end Go.Ab
end
section
/- Each operation of the abstract side is the machine's (10): append, copy, and the rest. -/
namespace Go.Ab
set_option linter.unusedSimpArgs false

section
variable {P : Program} {ty : TypeId} {ρ : Operand → Value} {κ : Kap} {s : St} {w : World} (hs : Sim κ s w)

theorem exec_append {t t2 : TypeId} {x y : Operand} {z : Value} {w' : World} (h : (Builtin.append_ #[t, t2] ty #[ρ x, ρ y]).run P w = .ok z w') (dst : Option Tmp) (pos : String) (after : Array Edge) (guard : Option (Nat × Bool)) :
    (execOp ρ ⟨dst, .call { callee := .builtin .append, args := #[x, y], argTypes := #[t, t2] }, ty, pos, after, guard⟩).run P w = .ok (.value z) w' := by
  simp [execOp, resolve, invoke, builtin, h]

/-- A growing slice as the frozen cells show it. -/
theorem VR.ofTok {κ' : Kap} {D d i n sz cap b : Nat} {es : List AV} {xs : List Value} (hd : d < D) (hi : i < κ'.n d) (ht : κ'.tk d i es.length = some (⟨b, 0, none⟩, cap, sz)) (hn : es.length ≤ cap) (hsz : ∀ e, e ∈ es → e.cells.length = sz) (hr : ∀ e, e ∈ es → e.low d = true)
    (hx : VRs κ' D (es.flatMap AV.cells) xs) (hF : ∀ j, j < (es.flatMap AV.cells).length → κ'.F ⟨b, j, none⟩ = xs[j]?) (hl : n = es.length) : VR κ' D (.sl sz es (.buf (.g d i))) (.slice (some ⟨b, 0, none⟩) n cap) := by
  subst hl
  refine .sl sz es _ _ _ (fun j => xs.getD j undef) ⟨hd, hi, ht⟩ hn (fun _ => rfl) hsz (.inr ⟨d, i, rfl, hr⟩) (fun j hj => ?_) (fun j c hc => ?_)
  · rw [add_spot rfl]
    simp only [Nat.zero_add]
    rw [hF j hj]
    have : j < xs.length := by rw [hx.1]; exact hj
    simp [List.getD, this]
  · obtain ⟨y, hy, hv⟩ := hx.get hc
    have : xs.getD j undef = y := by simp [List.getD, hy]
    rw [this]
    exact hv

include hs
/-- Where the elements lie that are appended. -/
def Form (κ : Kap) (s : St) (w : World) (v : AV) (X : Value) (sz : Nat) (es : List AV) : Prop :=
  (∃ bs a, v = .str bs ∧ X = .string a ∧ a.data.toList.map UInt8.toNat = bs ∧ sz = 1 ∧ es = bs.map fun b => .int .u8 (b : Nat)) ∨
     (∃ A c, X = .slice A es.length c ∧ (A = none → es = []) ∧ ∀ a, A = some a → Reads κ (s.depth + 1) w a (es.flatMap AV.cells))
/-- A slice that grows in a new block, with a new token. -/
theorem append_newR {t t2 el : TypeId} {sz bytes : Nat} {z : Value} (h : AppTy P t t2 el sz bytes z) {x y : Operand} {es new : List AV} {base : Option Addr} {cap0 : Nat} {Y : AV} (hX : ρ x = .slice base es.length cap0) (hform : Form κ s w Y (ρ y) sz new) (hnsz : ∀ e, e ∈ new → e.cells.length = sz)
    (hes : (∃ A c, ρ x = .slice A es.length c ∧ (A = none → es = []) ∧ ∀ a, A = some a → Reads κ (s.depth + 1) w a (es.flatMap AV.cells))) (hsz : ∀ e, e ∈ es → e.cells.length = sz) (hcap : cap0 < es.length + new.length) (hb : (es.length + new.length) * bytes ≤ 1099511627776) {bl l : Loc} {s' : St} (hby : s.newBy bl (.tok (es.length + new.length)) = some (l, s'))
    (hr : ∀ d i, l.pub s.depth = .g d i → ∀ e, e ∈ es ++ new → e.low d = true) :
    Gives P (.call { callee := .builtin .append, args := #[x, y], argTypes := #[t, t2] }) ty ρ κ s w (.sl sz (es ++ new) (.buf l)) s' := by
  obtain ⟨dd, ii, hl, hnw⟩ := NewAt.by hby
  obtain ⟨hlen, xs, hc, hxs⟩ := run_elems (P := P) hform hnsz new.length (Nat.le_refl _) w.drew (fun _ => rfl)
  have hlen' := (run_elems (P := P) hform hnsz new.length (Nat.le_refl _) w (fun _ => rfl)).1
  obtain ⟨_, os, ho, hos⟩ := run_elems (P := P) (X := ρ x) (v := .dead) (.inr hes) hsz es.length (Nat.le_refl _) w.drew (fun _ => rfl)
  simp only [List.take_length] at hxs hos
  have hxl : xs.length = new.length * sz := by rw [hxs.1, flat_len new sz hnsz]
  have hol : os.length = es.length * sz := by rw [hos.1, flat_len es sz hsz]
  rw [hX] at ho
  obtain ⟨cap, C, q1, q2, q3, q4⟩ := run_append_grows (ty := ty) h (base := base) (sLen := es.length) (sCap := cap0) hlen' hc ho hxl hol hcap hb
  obtain ⟨κ', g1, g2, g3, g4, g5⟩ := hs.newTok (w' := w.drew.alloc (.cells C el)) C el (es.length + new.length) sz cap hnw q2 q1 rfl rfl rfl rfl
  refine ⟨_, κ', _, .inl (exec_append (by rw [hX]; exact q4)), g2, g1, ?_⟩
  simp only [AV.pub, Gr.pub, hl]
  have hall : ∀ e, e ∈ es ++ new → e.cells.length = sz := fun e he => by
    rcases List.mem_append.1 he with he | he
    · exact hsz e he
    · exact hnsz e he
  refine VR.ofTok (Nat.lt_succ_of_le hnw.le) g3 (by rw [List.length_append]; exact g4) (by rw [List.length_append]; exact q1) hall (hr dd ii hl) (xs := os ++ xs) (by rw [List.flatMap_append]; exact (hos.append hxs).mono g2.k) (fun j hj => ?_) (by rw [List.length_append])
  rw [flat_len _ sz hall, List.length_append] at hj
  rw [g5 j hj, q3 j hj]
theorem append_new {t t2 el : TypeId} {sz bytes : Nat} {z : Value} (h : AppTy P t t2 el sz bytes z) {x y : Operand} {es new : List AV} {base : Option Addr} {cap0 : Nat} {Y : AV} (hX : ρ x = .slice base es.length cap0) (hY : VR κ (s.depth + 1) (Y.pub s.depth) (ρ y)) (hel : elemsOf s Y = some (sz, new))
    (hes : (∃ A c, ρ x = .slice A es.length c ∧ (A = none → es = []) ∧ ∀ a, A = some a → Reads κ (s.depth + 1) w a (es.flatMap AV.cells))) (hsz : ∀ e, e ∈ es → e.cells.length = sz) (hr : ∀ e, e ∈ es → e.refless = true) (hcap : cap0 < es.length + new.length) (hb : (es.length + new.length) * bytes ≤ 1099511627776) {bl l : Loc} {s' : St} (hby : s.newBy bl (.tok (es.length + new.length)) = some (l, s')) :
    Gives P (.call { callee := .builtin .append, args := #[x, y], argTypes := #[t, t2] }) ty ρ κ s w (.sl sz (es ++ new) (.buf l)) s' := by
  obtain ⟨hform, hnr, hnsz⟩ := elems_cells hs hY hel
  refine append_newR hs h hX hform hnsz hes hsz hcap hb hby fun d i _ e he => AV.refless_low _ _ ?_
  rcases List.mem_append.1 he with he | he
  · exact hr e he
  · exact reflessL_iff.1 hnr e he

/-- A slice that grows under its token. -/
theorem append_buf {t t2 el : TypeId} {q bytes : Nat} {z : Value} (h : AppTy P t t2 el q bytes z) {x y : Operand} {es new : List AV} {Y : AV} (hform : Form κ s w Y (ρ y) q new) (hnsz : ∀ e, e ∈ new → e.cells.length = q) (hpos : 0 < new.length) {a : Loc} {s' : St} (hX : VR κ (s.depth + 1) (.sl q es (.buf (a.pub s.depth))) (ρ x))
    (hgt : s.get a = some (.tok es.length)) (hcl : (new.flatMap AV.cells).all AV.isCell = true) (hset : s.set a (.tok (es.length + new.length)) = some s') (hlow : lowAt s a new = true) (hble : (es.length + new.length) * bytes ≤ 1099511627776) :
    Gives P (.call { callee := .builtin .append, args := #[x, y], argTypes := #[t, t2] }) ty ρ κ s w (.sl q (es ++ new) (.buf a)) s' := by
  rw [← St.get_pub] at hgt
  rw [← St.set_pub] at hset
  rcases hX.sl_inv with ⟨_, hg, _⟩ | ⟨A, cap, vals, e, hg, hn, hsp, h4, h5, h6, h7⟩
  · cases hg
  cases ha : a.pub s.depth with
  | l i => cases a <;> simp [Loc.pub] at ha
  | g d i =>
    rw [ha] at hgt hset hg h5
    obtain ⟨hd, hi, htk⟩ := hg
    have hlow' : ∀ e, e ∈ new → e.low d = true := by
      cases a with
      | l j =>
        simp only [Loc.pub, Loc.g.injEq] at ha
        exact lowL_iff.1 (ha.1 ▸ hlow)
      | g d' j =>
        simp only [Loc.pub, Loc.g.injEq] at ha
        exact lowL_iff.1 (ha.1 ▸ hlow)
    have hlowes : ∀ e, e ∈ es → e.low d = true := by
      rcases h5 with h5 | ⟨d', i', e', h5⟩
      · exact fun e he => AV.refless_low _ _ (h5 e he)
      · cases e'; exact h5
    obtain ⟨b, cap', sz', t1, t2', ⟨C0, e0, fz0, t3, t4, t5⟩, t6, t7⟩ := hs.obj d i _ hgt
    rw [htk] at t1
    simp only [Option.some.injEq, Prod.mk.injEq] at t1
    obtain ⟨rfl, rfl, rfl⟩ := t1
    have hall : ∀ e, e ∈ es ++ new → e.cells.length = q := fun e he => by
      rcases List.mem_append.1 he with he | he
      · exact h4 e he
      · exact hnsz e he
    have hallr : ∀ e, e ∈ es ++ new → e.low d = true := fun e he => by
      rcases List.mem_append.1 he with he | he
      · exact hlowes e he
      · exact hlow' e he
    have hread : Reads κ (s.depth + 1) w ⟨b, 0, none⟩ (es.flatMap AV.cells) := ⟨vals, fun j hj => (hs.froz _ _ (h6 j hj)).2, h7⟩
    have hfl := flat_len es q h4
    by_cases hfit : es.length + new.length ≤ cap
    · -- in place
      obtain ⟨hlen, xs, hc, hxs⟩ := run_elems (P := P) hform hnsz new.length (Nat.le_refl _) w (fun _ => rfl)
      simp only [List.take_length] at hxs
      have hxl : xs.length = new.length * q := by rw [hxs.1, flat_len new q hnsz]
      have hCle : (es.length + new.length) * q ≤ C0.size := by rw [t4]; exact Nat.mul_le_mul_right _ hfit
      rw [Nat.add_mul] at hCle
      have h1 := all_cell hcl hxs
      have hst := run_storeCells_cells (P := P) b (es.length * q) xs 0 w (fun j hj => by rw [cell_of_heap t3]; simp; omega) (fun j hj => by
        have hu := t5 (es.length * q + 0 + j) (by omega)
        simp only [World.frozen?, t3]
        rw [Bool.and_eq_false_iff]
        by_cases hlo : fz0.1 ≤ es.length * q + 0 + j
        · right; simp only [decide_eq_false_iff_not]; exact fun h => hu ⟨hlo, h⟩
        · left; simpa using hlo) h1
      have hrun := run_append_fits (ty := ty) h (base := some ⟨b, 0, none⟩) (sLen := es.length) (sCap := cap) hlen hc hfit (w' := w.setCells b (es.length * q) xs) (by
        have hadd : (⟨b, 0, none⟩ : Addr).add (es.length * q) = ⟨b, es.length * q, none⟩ := by rw [add_spot rfl]; simp
        simp only [hadd]
        simpa using hst)
      obtain ⟨κ', g1, g2, g3, g4⟩ := hs.growTok hgt htk hset (by omega) hfit xs (by rw [hxl]; congr 1; omega)
      refine ⟨_, κ', _, .inl (exec_append (by rw [e]; exact hrun)), g2, g1, ?_⟩
      simp only [AV.pub, Gr.pub, ha]
      -- the old cells' values
      have hold : VRs κ (s.depth + 1) (es.flatMap AV.cells) ((List.range (es.length * q)).map vals) := by
        refine ⟨by simp [hfl], fun j c x hc hx => ?_⟩
        have hj : j < es.length * q := by rw [← hfl]; exact (List.getElem?_eq_some_iff.1 hc).1
        have : (List.range (es.length * q))[j]? = some j := by simp [hj]
        rw [List.getElem?_map, this] at hx
        simp only [Option.map_some, Option.some.injEq] at hx
        exact hx ▸ h7 j c hc
      refine VR.ofTok hd (Nat.lt_of_lt_of_le hi (g2.k.n d hd)) (by rw [List.length_append]; exact g3) (by rw [List.length_append]; exact hfit) hall hallr (xs := (List.range (es.length * q)).map vals ++ xs) (by rw [List.flatMap_append]; exact (hold.append hxs).mono g2.k) (fun j hj => ?_) (by rw [List.length_append])
      rw [flat_len _ q hall, List.length_append, Nat.add_mul] at hj
      by_cases hj1 : j < es.length * q
      · rw [List.getElem?_append_left (by simpa using hj1)]
        have h8 := g2.k.F _ _ (h6 j (by rw [hfl]; exact hj1))
        rw [add_spot rfl] at h8
        simp only [Nat.zero_add] at h8
        rw [h8]
        simp [hj1]
      · rw [List.getElem?_append_right (by simp; omega)]
        obtain ⟨m, rfl⟩ : ∃ m, j = es.length * q + m := ⟨j - es.length * q, by omega⟩
        have hm : m < xs.length := by omega
        rw [g4 m xs[m] (List.getElem?_eq_getElem hm)]
        simp [hm]
    · -- a new block
      obtain ⟨hlen, xs, hc, hxs⟩ := run_elems (P := P) hform hnsz new.length (Nat.le_refl _) w.drew (fun _ => rfl)
      have hlen' := (run_elems (P := P) hform hnsz new.length (Nat.le_refl _) w (fun _ => rfl)).1
      obtain ⟨_, os, ho, hos⟩ := run_elems (P := P) (X := ρ x) (v := .dead) (.inr ⟨some ⟨b, 0, none⟩, cap, e, fun ha => (by cases ha), fun a' ha => (by cases ha; exact hread)⟩) h4 es.length (Nat.le_refl _) w.drew (fun _ => rfl)
      simp only [List.take_length] at hxs hos
      have hxl : xs.length = new.length * q := by rw [hxs.1, flat_len new q hnsz]
      have hol : os.length = es.length * q := by rw [hos.1, hfl]
      rw [e] at ho
      obtain ⟨cap2, C, q1, q2, q3, q4⟩ := run_append_grows (ty := ty) h (base := some ⟨b, 0, none⟩) (sLen := es.length) (sCap := cap) hlen' hc ho hxl hol (by omega) hble
      obtain ⟨κ', g1, g2, g3, g4⟩ := hs.moveTok (w' := w.drew.alloc (.cells C el)) hgt hset (by omega) C el cap2 q q2 q1 rfl rfl rfl rfl
      refine ⟨_, κ', _, .inl (exec_append (by rw [e]; exact q4)), g2, g1, ?_⟩
      simp only [AV.pub, Gr.pub, ha]
      refine VR.ofTok hd (Nat.lt_of_lt_of_le hi (g2.k.n d hd)) (by rw [List.length_append]; exact g3) (by rw [List.length_append]; exact q1) hall hallr (xs := os ++ xs) (by rw [List.flatMap_append]; exact (hos.append hxs).mono g2.k) (fun j hj => ?_) (by rw [List.length_append])
      rw [flat_len _ q hall, List.length_append] at hj
      rw [g4 j hj, q3 j hj]
theorem gives_append {E : Env} (hE : E.F = .not) {k : AV → St → Res} {r : Res} (hf : r ≠ .fail) {t t2 el : TypeId} {sz bytes : Nat} {z : Value} (h : AppTy P t t2 el sz bytes z) {x y : Operand} {X Y : AV}
    (hX : VR κ (s.depth + 1) (X.pub s.depth) (ρ x)) (hY : VR κ (s.depth + 1) (Y.pub s.depth) (ρ y)) {bl : Loc} (hr : appendV E s k sz bytes bl X Y = r) : ∃ v' s', k v' s' = r ∧ Gives P (.call { callee := .builtin .append, args := #[x, y], argTypes := #[t, t2] }) ty ρ κ s w v' s' := by
  unfold appendV at hr
  cases hel : elemsOf s Y with
  | none => rw [hel] at hr; exact absurd hr.symm hf
  | some p =>
    obtain ⟨zz, new⟩ := p
    rw [hel] at hr
    obtain ⟨hform, hnr, hnsz⟩ := elems_cells hs hY hel
    cases X <;> simp only [AV.pub] at hX <;> simp only [hE, Force.not] at hr <;> try exact absurd hr.symm hf
    case sl q es g =>
      obtain ⟨hb, hr1⟩ := bif_cases hr hf
      clear hr
      rw [Bool.and_eq_true, Bool.and_eq_true] at hb
      have hqz : zz = sz := Nat.eq_of_beq_eq_true hb.1.1
      have hqz2 : q = sz := Nat.eq_of_beq_eq_true hb.1.2
      have hble := Nat.le_of_ble_eq_true hb.2
      subst hqz
      subst hqz2
      cases new with
      | nil =>
        simp only at hr1
        refine ⟨_, _, hr1, ?_⟩
        obtain ⟨hlen, xs, hc, hxs⟩ := run_elems (P := P) hform hnsz 0 (Nat.le_refl _) w (fun _ => rfl)
        have hx0 : xs = [] := List.eq_nil_of_length_eq_zero (by rw [hxs.1]; rfl)
        subst hx0
        have : ∃ A cap, ρ x = .slice A es.length cap ∧ es.length ≤ cap := by
          rcases hX.sl_inv with ⟨rfl, _, e⟩ | ⟨a, cap, _, e, _, hn, _⟩
          · exact ⟨none, 0, e, Nat.le_refl _⟩
          · exact ⟨some a, cap, e, hn⟩
        obtain ⟨A, cap, e, hn⟩ := this
        have hrun := run_append_fits (ty := ty) h (base := A) (sLen := es.length) (sCap := cap) hlen hc (by simpa using hn) (w' := w) (by cases A with
          | none => rfl
          | some a => simp [storeCells])
        refine gives_same hs _ (exec_append (by rw [e]; exact hrun)) ?_
        simp only [AV.pub, List.length_nil, Nat.add_zero]
        rw [← e]
        exact hX
      | cons c0 cs0 =>
        simp only at hr1
        generalize hnew : c0 :: cs0 = new at *
        have hpos : 0 < new.length := by rw [← hnew]; simp
        cases g with
        | any => exact absurd hr1.symm hf
        | nil =>
          simp only at hr1
          cases hby : s.newBy bl (.tok (es.length + new.length)) with
          | none => rw [hby] at hr1; exact absurd hr1.symm hf
          | some p =>
          obtain ⟨l, s₁⟩ := p
          rw [hby] at hr1
          refine ⟨_, _, hr1, ?_⟩
          rcases hX.sl_inv with ⟨rfl, _, e⟩ | ⟨a, cap, _, e, hg, _⟩
          · exact append_new hs h e hY hel ⟨none, 0, e, fun _ => rfl, fun a ha => (by cases ha)⟩ (fun e he => by simp at he) (fun e he => by simp at he) (by simpa using hpos) hble hby
          · simp [Gr.pub, GrOK] at hg
        | exact =>
          simp only at hr1
          cases hby : s.newBy bl (.tok (es.length + new.length)) with
          | none => rw [hby] at hr1; exact absurd hr1.symm hf
          | some p =>
          obtain ⟨l, s₁⟩ := p
          rw [hby] at hr1
          refine ⟨_, _, hr1, ?_⟩
          rcases hX.sl_inv with ⟨_, hg, _⟩ | ⟨a, cap, vals, e, hg, hn, hsp, h4, h5, h6, h7⟩
          · simp [Gr.pub] at hg
          · simp only [Gr.pub, GrOK] at hg
            subst hg
            exact append_new hs h e hY hel ⟨some a, _, e, fun ha => (by cases ha), fun a' ha => (by cases ha; exact ⟨vals, fun j hj => (hs.froz _ _ (h6 j hj)).2, h7⟩)⟩ h4 (h5.left fun d j e => (by cases e)) (by omega) hble hby
        | buf a =>
          simp only at hr1
          · rw [← St.get_pub] at hr1
            cases ha : a.pub s.depth with
            | l i => cases a <;> simp [Loc.pub] at ha
            | g d i =>
              rw [ha] at hr1
              cases hgt : s.get (.g d i) with
              | none => rw [hgt] at hr1; exact absurd hr1.symm hf
              | some o =>
                rw [hgt] at hr1
                cases o <;> try exact absurd hr1.symm hf
                rename_i n
                obtain ⟨hbn, hr2⟩ := bif_cases hr1 hf
                rw [Bool.and_eq_true] at hbn
                have hnn : n = es.length := Nat.eq_of_beq_eq_true hbn.1
                subst hnn
                rw [← St.set_pub, ha] at hr2
                cases hset : s.set (.g d i) (.tok (es.length + new.length)) with
                | none => rw [hset] at hr2; exact absurd hr2.symm hf
                | some s' =>
                  rw [hset] at hr2
                  refine ⟨_, _, hr2, ?_⟩
                  have hgt' : s.get a = some (.tok es.length) := by rw [← St.get_pub, ha]; exact hgt
                  have hset' : s.set a (.tok (es.length + new.length)) = some s' := by rw [← St.set_pub, ha]; exact hset
                  refine append_buf hs h hform hnsz hpos hX hgt' hbn.2 hset' ?_ hble
                  unfold lowAt
                  cases a <;> exact AV.reflessL_low _ _ hnr
    case msl a off len cap q =>
      rw [← St.get_pub] at hr
      cases ha : a.pub s.depth with
      | l i => cases a <;> simp [Loc.pub] at ha
      | g d i =>
        rw [ha] at hr hX
        obtain ⟨e, hd, hi, _⟩ := hX.msl_inv
        cases hg : s.get (.g d i) with
        | none => rw [hg] at hr; exact absurd hr.symm hf
        | some o =>
          rw [hg] at hr
          cases o <;> try exact absurd hr.symm hf
          rename_i cs
          obtain ⟨hb, hr1⟩ := bif_cases hr hf
          simp only [Bool.and_eq_true] at hb
          obtain ⟨⟨⟨⟨⟨hb1, hb2⟩, hb3⟩, hb4⟩, hb5⟩, hb6⟩ := hb
          have hqz : zz = sz := Nat.eq_of_beq_eq_true hb1
          have hqz2 : q = sz := Nat.eq_of_beq_eq_true hb2
          subst hqz
          subst hqz2
          have h3 := Nat.le_of_ble_eq_true hb3
          have h4 := Nat.le_of_ble_eq_true hb4
          rw [← St.set_pub, ha] at hr1
          have hfl := flat_len new q hnsz
          cases hset : s.set (.g d i) (.cells (splice cs (off + len * q) (new.flatMap AV.cells))) with
          | none => rw [hset] at hr1; exact absurd hr1.symm hf
          | some s' =>
            rw [hset] at hr1
            refine ⟨_, _, hr1, ?_⟩
            obtain ⟨hlen, xs, hc, hxs⟩ := run_elems (P := P) hform hnsz new.length (Nat.le_refl _) w (fun _ => rfl)
            simp only [List.take_length] at hxs
            have hmul : off + (len + new.length) * q = off + len * q + new.length * q := by rw [Nat.add_mul]; omega
            have hxl : xs.length = new.length * q := by rw [hxs.1, hfl]
            have hrl : AV.reflessL (new.flatMap AV.cells) = true := reflessL_iff.2 (fun c hc => by
              obtain ⟨e', he', hce⟩ := List.mem_flatMap.1 hc
              exact refless_cells (reflessL_iff.1 hnr e' he') hce)
            have hv2 := store_vals ha hxs (by simp [St.takes, hrl])
            obtain ⟨g1, g2⟩ := hs.store hg hset hv2 (by rw [hfl]; omega)
            have hst := run_storeObj (P := P) hs hg (off := off + len * q) (xs := xs) (by omega) (all_cell hb6 hxs)
            have hrun := run_append_fits (ty := ty) h (base := some ⟨κ.loc d i, off, none⟩) (sLen := len) (sCap := cap) hlen hc h3 (w' := w.setCells (κ.loc d i) (off + len * q) xs) (by
              have hadd : (⟨κ.loc d i, off, none⟩ : Addr).add (len * q) = ⟨κ.loc d i, off + len * q, none⟩ := by rw [add_spot rfl]
              simp only [hadd]
              exact hst)
            refine ⟨_, κ, _, .inl (exec_append (by rw [e]; exact hrun)), g2, g1, ?_⟩
            simp only [AV.pub, ha]
            exact .msl d i off _ cap q hd hi h3

/-- An append of elements that may refer to objects. -/
theorem gives_appendR {E : Env} (hE : E.F = .not) {k : AV → St → Res} {r : Res} (hf : r ≠ .fail) {t t2 el : TypeId} {sz bytes : Nat} {z : Value} (h : AppTy P t t2 el sz bytes z) {x y : Operand} {X Y : AV}
    (hX : VR κ (s.depth + 1) (X.pub s.depth) (ρ x)) (hY : VR κ (s.depth + 1) (Y.pub s.depth) (ρ y)) {bl : Loc} (hr : appendRV E s k sz bytes bl X Y = r) : ∃ v' s', k v' s' = r ∧ Gives P (.call { callee := .builtin .append, args := #[x, y], argTypes := #[t, t2] }) ty ρ κ s w v' s' := by
  unfold appendRV at hr
  cases Y <;> simp only [AV.pub] at hY <;> simp only [hE, Force.not] at hr <;> try exact absurd hr.symm hf
  rename_i zz new gy
  cases X <;> simp only [AV.pub] at hX <;> try exact absurd hr.symm hf
  rename_i q es g
  obtain ⟨hb, hr1⟩ := bif_cases hr hf
  clear hr
  rw [Bool.and_eq_true, Bool.and_eq_true] at hb
  have hqz : zz = sz := Nat.eq_of_beq_eq_true hb.1.1
  have hqz2 : q = sz := Nat.eq_of_beq_eq_true hb.1.2
  have hble := Nat.le_of_ble_eq_true hb.2
  subst hqz
  subst hqz2
  have hfn : Form κ s w .dead (ρ y) q new ∧ ∀ e, e ∈ new → e.cells.length = q := by
    rcases hY.sl_inv with ⟨rfl, _, e⟩ | ⟨a, cap, vals, e, _, _, _, h4, _, h6, h7⟩
    · exact ⟨.inr ⟨none, 0, e, fun _ => rfl, fun a ha => (by cases ha)⟩, fun e he => (by simp at he)⟩
    · exact ⟨.inr ⟨some a, cap, e, fun ha => (by cases ha), fun a' ha => (by cases ha; exact ⟨vals, fun j hj => (hs.froz _ _ (h6 j hj)).2, h7⟩)⟩, h4⟩
  obtain ⟨hform, hnsz⟩ := hfn
  cases new with
  | nil => exact absurd hr1.symm hf
  | cons c0 cs0 =>
    simp only at hr1
    generalize hnew : c0 :: cs0 = new at *
    have hpos : 0 < new.length := by rw [← hnew]; simp
    cases g with
    | any => exact absurd hr1.symm hf
    | exact => exact absurd hr1.symm hf
    | nil =>
      simp only at hr1
      obtain ⟨hlow, hr2⟩ := bif_cases hr1 hf
      cases hby : s.newBy bl (.tok (es.length + new.length)) with
      | none => rw [hby] at hr2; exact absurd hr2.symm hf
      | some p =>
      obtain ⟨l, s₁⟩ := p
      rw [hby] at hr2
      refine ⟨_, _, hr2, ?_⟩
      rcases hX.sl_inv with ⟨rfl, _, e⟩ | ⟨a, cap, _, e, hg, _⟩
      · refine append_newR hs h e hform hnsz ⟨none, 0, e, fun _ => rfl, fun a ha => (by cases ha)⟩ (fun e he => by simp at he) (by simpa using hpos) hble hby fun d i hl e he => ?_
        simp only [List.nil_append] at he
        have hd : lowAt s bl new = true → ∀ e, e ∈ new → e.low d = true := by
          intro hlow
          cases bl with
          | l j =>
            simp only [St.newBy, Option.some.injEq, Prod.mk.injEq] at hby
            obtain ⟨rfl, _⟩ := hby
            simp only [Loc.pub, Loc.g.injEq] at hl
            exact lowL_iff.1 (hl.1 ▸ hlow)
          | g d' j =>
            simp only [St.newBy] at hby
            split at hby
            · rename_i hdd
              simp only [Option.some.injEq, Prod.mk.injEq] at hby
              obtain ⟨rfl, _⟩ := hby
              simp only [Loc.pub, Loc.g.injEq] at hl
              have : d' = d := by omega
              exact lowL_iff.1 (this ▸ hlow)
            · split at hby
              · split at hby
                · simp only [Option.some.injEq, Prod.mk.injEq] at hby
                  obtain ⟨rfl, _⟩ := hby
                  simp only [Loc.pub, Loc.g.injEq] at hl
                  exact lowL_iff.1 (hl.1 ▸ hlow)
                · cases hby
              · cases hby
        exact hd hlow e he
      · simp [Gr.pub, GrOK] at hg
    | buf a =>
      simp only at hr1
      cases hgt : s.get a with
      | none => rw [hgt] at hr1; exact absurd hr1.symm hf
      | some o =>
        rw [hgt] at hr1
        cases o <;> try exact absurd hr1.symm hf
        rename_i n
        obtain ⟨hbn, hr2⟩ := bif_cases hr1 hf
        rw [Bool.and_eq_true, Bool.and_eq_true] at hbn
        have hnn : n = es.length := Nat.eq_of_beq_eq_true hbn.1.1
        subst hnn
        cases hset : s.set a (.tok (es.length + new.length)) with
        | none => rw [hset] at hr2; exact absurd hr2.symm hf
        | some s' =>
          rw [hset] at hr2
          exact ⟨_, _, hr2, append_buf hs h hform hnsz hpos hX hgt hbn.1.2 hset hbn.2 hble⟩

/-- A slice that is built in the frame, of elements that may refer to objects. -/
theorem gives_buildSliceR {G : Nat → AV} {fr : Nat → AV} {a : Act} (hfr : FR κ s fr a) (hG : GOK κ G) {t el : TypeId} {sz : Nat} {z : List AV} {ps : List AOpd} {qs : List Operand} (ht : P.underlying t = some (.slice el)) (hsz : tySize P el = some sz) (hz : okZero P el z = true) (hzl : z.length = sz)
    (hbig : ¬ (qs.length * sz > 2 ^ 24)) (hok : okOpds ps qs = true) {es : List AV} (hes : ps.map (fun x => (opnd G fr x).pub s.depth) = es) (hr : AV.lowL s.depth es = true) (hv : ∀ e, e ∈ es → e.isVal = true ∧ e.cells.length = sz) :
    Gives P (.buildSlice t qs.length (qs.zipIdx.map fun p => (p.2, p.1)).toArray) ty a.eval κ s w (.sl sz es (.buf (.l s.own.length))) (s.new (.tok es.length)) := by
  obtain ⟨v, e, h1, _, _⟩ := run_zero hz w
  have hvs : v.cells.size = sz := by rw [← Array.length_toList, (h1 κ 0).1, hzl]
  have hlen : es.length = qs.length := by
    have : ∀ (ps : List AOpd) (qs : List Operand), okOpds ps qs = true → ps.length = qs.length := by
      intro ps
      induction ps with
      | nil => intro qs h; cases qs <;> simp [okOpds] at h ⊢
      | cons p ps ih => intro qs h; cases qs with
        | nil => simp [okOpds] at h
        | cons q qs => simp only [okOpds, Bool.and_eq_true] at h; simp [ih qs h.2]
    simp [← hes, this ps qs hok]
  obtain ⟨xs, e', hxs⟩ := fill_slice hfr hG sz ps qs 0 es [] ((Array.range (qs.length * sz)).map (v.cells[· % v.cells.size]!)).toList hok hes.symm hv (by simp) (by simp)
  have hrun : ∀ dst pos after guard, (execOp a.eval ⟨dst, .buildSlice t qs.length (qs.zipIdx.map fun p => (p.2, p.1)).toArray, ty, pos, after, guard⟩).run P w = .ok (.value (.slice (some ⟨w.heap.size, 0, none⟩) qs.length qs.length)) (w.alloc (.cells xs.toArray el)) := by
    intro dst pos after guard
    simp only [List.nil_append, Array.toArray_toList] at e'
    have hrb := run_buildSlice (parts := ((qs.zipIdx.map fun p => (p.2, p.1)).toArray.map fun p => (p.1, a.eval p.2))) ht hsz e hbig (xs := xs.toArray) (by
      rw [Array.toList_map, List.map_map]
      exact e')
    have hx : ∀ (o : Oper), o.op = .buildSlice t qs.length (qs.zipIdx.map fun p => (p.2, p.1)).toArray → execOp a.eval o = (do pure (.value (← Instr.buildSlice t qs.length ((qs.zipIdx.map fun p => (p.2, p.1)).toArray.map fun p => (p.1, a.eval p.2)))) : Sem Next) := by
      intro o ho
      unfold execOp
      rw [ho]
    rw [hx _ rfl, Sem.run_bind, hrb]
    rfl
  have hall : ∀ e, e ∈ es → e.cells.length = sz := fun e he => (hv e he).2
  have hxl : xs.length = es.length * sz := by rw [hxs.1, flat_len _ sz hall]
  obtain ⟨κ', g1, g2, g3, g4, g5⟩ := hs.newTok (w' := w.alloc (.cells xs.toArray el)) xs.toArray el es.length sz es.length (NewAt.new s _) (by simpa using hxl) (Nat.le_refl _) rfl rfl rfl rfl
  refine ⟨_, κ', _, .inl hrun, g2, g1, ?_⟩
  simp only [AV.pub, Gr.pub, Loc.pub]
  rw [← hlen]
  refine VR.ofTok (Nat.lt_succ_self _) g3 g4 (Nat.le_refl _) hall (lowL_iff.1 hr) (xs := xs) (hxs.mono g2.k) (fun j hj => ?_) rfl
  rw [flat_len _ sz hall] at hj
  rw [g5 j hj]
  simp
end
end Go.Ab
end
section
/- Each operation of the abstract side is the machine's (11): copy, what is frozen, bytes and strings, min and max. -/
namespace Go.Ab
set_option linter.unusedSimpArgs false

section
variable {P : Program} {ty : TypeId} {ρ : Operand → Value} {κ : Kap} {s : St} {w : World} (hs : Sim κ s w)
include hs

theorem gives_copy {E : Env} (hE : E.F = .not) {k : AV → St → Res} {r : Res} (hf : r ≠ .fail) {t t2 el : TypeId} {sz : Nat} (ht : P.underlying t = some (.slice el)) (hz : tySize P el = some sz) {x y : Operand} {X Y : AV} (hq : ∀ a off len cap q, X = .msl a off len cap q → q = sz)
    (hX : VR κ (s.depth + 1) (X.pub s.depth) (ρ x)) (hY : VR κ (s.depth + 1) (Y.pub s.depth) (ρ y)) (hr : copyV E s k X Y = r) : ∃ v' s', k v' s' = r ∧ Gives P (.call { callee := .builtin .copy, args := #[x, y], argTypes := #[t, t2] }) ty ρ κ s w v' s' := by
  cases X <;> simp only [AV.pub] at hX <;> simp only [copyV] at hr <;> try exact absurd hr.symm hf
  rename_i a off len cap q
  obtain rfl := hq _ _ _ _ _ rfl
  cases hel : elemsOf s Y with
  | none => rw [hel] at hr; exact absurd hr.symm hf
  | some p =>
    obtain ⟨zz, es⟩ := p
    rw [hel] at hr
    obtain ⟨hform, hnr, hnsz⟩ := elems_cells hs hY hel
    simp only at hr
    rw [← St.get_pub] at hr
    cases ha : a.pub s.depth with
    | l i => cases a <;> simp [Loc.pub] at ha
    | g d i =>
      rw [ha] at hr hX
      obtain ⟨e, hd, hi, _⟩ := hX.msl_inv
      cases hg : s.get (.g d i) with
      | none => rw [hg] at hr; exact absurd hr.symm hf
      | some o =>
        rw [hg] at hr
        cases o <;> try exact absurd hr.symm hf
        rename_i cs
        simp only [hE, Force.not] at hr
        obtain ⟨hb, hr1⟩ := bif_cases hr hf
        simp only [Bool.and_eq_true] at hb
        obtain ⟨⟨hb1, hb2⟩, hb3⟩ := hb
        have hqz : zz = q := Nat.eq_of_beq_eq_true hb1
        subst hqz
        have h2 := Nat.le_of_ble_eq_true hb2
        rw [← St.set_pub, ha] at hr1
        obtain ⟨hlen, xs, hc, hxs⟩ := run_elems (P := P) hform hnsz (min es.length len) (Nat.min_le_left _ _) w (fun _ => rfl)
        have hfl : ((es.take (min es.length len)).flatMap AV.cells).length = min es.length len * zz := by
          rw [flat_len _ zz (fun e he => hnsz e (List.mem_of_mem_take he)), List.length_take]
          congr 1
          omega
        have hmul : min es.length len * zz ≤ len * zz := Nat.mul_le_mul_right _ (Nat.min_le_right _ _)
        have hrl : AV.reflessL ((es.take (min es.length len)).flatMap AV.cells) = true := reflessL_iff.2 (fun c hc => by
          obtain ⟨e', he', hce⟩ := List.mem_flatMap.1 hc
          exact refless_cells (reflessL_iff.1 hnr e' (List.mem_of_mem_take he')) hce)
        cases hset : s.set (.g d i) (.cells (splice cs off ((es.take (min es.length len)).flatMap AV.cells))) with
        | none => rw [hset] at hr1; exact absurd hr1.symm hf
        | some s' =>
          rw [hset] at hr1
          refine ⟨_, _, hr1, ?_⟩
          have hxl : xs.length = min es.length len * zz := by rw [hxs.1, hfl]
          have hv2 := store_vals ha hxs (by simp [St.takes, hrl])
          obtain ⟨g1, g2⟩ := hs.store hg hset hv2 (by rw [hfl]; omega)
          have hst := run_storeObj (P := P) hs hg (off := off) (xs := xs) (by omega) (all_cell hb3 hxs)
          have hmin : Nat.min es.length len = min es.length len := rfl
          refine ⟨.int .i64 (min es.length len : Nat), κ, _, .inl (fun _ _ _ _ => ?_), g2, g1, .int _ _⟩
          simp only [execOp, resolve, invoke, builtin, List.map_toArray, List.map_cons, List.map_nil, Sem.run_bind, Sem.run_pure, Result.andThen_ok]
          have : (Builtin.copy_ #[t, t2] ty #[ρ x, ρ y]).run P w = .ok (goInt (min es.length len : Nat)) (w.setCells (κ.loc d i) off xs) := by
            simp [Builtin.copy_, run_underlying ht, e, hlen, run_sizeOfB hz, hc, hst]
          simp [this, goInt]

theorem gives_moveF {E : Env} (hE : E.F = .not) {k : AV → St → Res} {r : Res} (hf : r ≠ .fail) {o : Op} {x : Operand} (ho : ∀ dst pos after guard, (execOp ρ ⟨dst, o, ty, pos, after, guard⟩).run P w = .ok (.value (ρ x)) w) {v : AV}
    (hx : VR κ (s.depth + 1) (v.pub s.depth) (ρ x)) (hr : moveFV E s k v = r) : ∃ v' s', k v' s' = r ∧ Gives P o ty ρ κ s w v' s' := by
  cases v <;> simp only [moveFV] at hr <;> try exact absurd hr.symm hf
  rename_i a off len cap sz
  cases a with
  | g d i => exact absurd hr.symm hf
  | l i =>
    simp only [AV.pub, Loc.pub] at hx
    obtain ⟨e, hd, hi, hlc⟩ := hx.msl_inv
    have hget : s.own[i]? = s.get (.g s.depth i) := by simp [St.get]
    simp only at hr
    rw [hget] at hr
    cases hg : s.get (.g s.depth i) with
    | none => rw [hg] at hr; exact absurd hr.symm hf
    | some ob =>
      rw [hg] at hr
      cases ob <;> try exact absurd hr.symm hf
      rename_i cs
      simp only [hE, Force.not] at hr
      obtain ⟨hb, hr1⟩ := bif_cases hr hf
      simp only [Bool.and_eq_true, Bool.not_eq_true'] at hb
      have hz : sz ≠ 0 := fun h0 => by rw [h0] at hb; simp at hb
      have hle := Nat.le_of_ble_eq_true hb.1.2
      obtain ⟨C, el, fz, c1, c2, c3, c4⟩ := hs.freezeObj (s' := { s with own := s.own.set i .gone }) hg (by simp [St.set])
      refine ⟨_, _, hr1, ρ x, _, _, .inl ho, c4, c3, ?_⟩
      rw [e]
      simp only [AV.pub]
      have hgr : (if len = cap then Gr.exact else Gr.any).pub s.depth = (if len = cap then Gr.exact else Gr.any) := by split <;> rfl
      rw [hgr]
      obtain ⟨q1, q2⟩ := chunk_cells sz hz len (cs.drop off) (by simp; omega)
      have hl : C.size = cs.length := by simpa using c2.1
      have key : VR (κ.freeze (κ.loc s.depth i) 0 C) (s.depth + 1) (.sl sz (chunk sz len (cs.drop off)) (if len = cap then Gr.exact else Gr.any)) (.slice (some ⟨κ.loc s.depth i, off, none⟩) (chunk sz len (cs.drop off)).length cap) := by
        refine .sl sz _ _ _ _ (fun j => C.getD (off + j) undef) ?_ (by rw [chunk_length]; exact hlc) (fun _ => rfl) q2 (.inl fun e he => reflessL_iff.1 hb.1.1 e he) (fun j hj => ?_) (fun j c hc => ?_)
        · by_cases h : len = cap
          · simp [h, GrOK, chunk_length]
          · simp [h, GrOK]
        · rw [q1] at hj
          simp at hj
          have hlt : off + j < C.size := by omega
          rw [add_spot rfl]
          show (κ.freeze (κ.loc s.depth i) 0 C).F ⟨κ.loc s.depth i, off + j, none⟩ = _
          rw [freeze_at (Nat.zero_le _) hlt]
          simp [Array.getD, hlt]
        · rw [q1, List.getElem?_take] at hc
          split at hc
          · rw [List.getElem?_drop] at hc
            obtain ⟨y, hy, hv⟩ := c2.get hc
            have : C.getD (off + j) undef = y := by
              have hy' : C[off + j]? = some y := by simpa using hy
              simp [Array.getD_eq_getD_getElem?, hy']
            rw [this]
            exact hv.mono c4.k
          · cases hc
      rw [chunk_length] at key
      exact key

theorem gives_strToBytes {E : Env} (hE : E.F = .not) {k : AV → St → Res} {r : Res} (hf : r ≠ .fail) {src dst el : TypeId} {x : Operand} {v : AV} (hsrc : P.underlying src = some .string) (hdst : P.underlying dst = some (.slice el)) (hel : P.underlying el = some (.int .u8))
    (hx : VR κ (s.depth + 1) (v.pub s.depth) (ρ x)) (hr : strToBytesV E s k v = r) : ∃ v', k v' s = r ∧ Gives P (.convert src dst x) ty ρ κ s w v' s := by
  cases v <;> simp only [AV.pub] at hx <;> simp only [strToBytesV, hE, Force.not] at hr <;> try exact absurd hr.symm hf
  rename_i bs
  refine ⟨_, hr, ?_⟩
  obtain ⟨a, ex, ha⟩ := hx.str_inv
  have hsz : a.size = bs.length := by have := congrArg List.length ha; rw [List.length_map, Array.length_toList] at this; exact this
  let cap := grownCap w a.size 0 el
  let C : Array Value := bytesRow a cap
  have hcap : a.size ≤ cap := by simp only [cap, grownCap, Question.cut]; omega
  have hCs : C.size = cap := by
    simp only [C, bytesRow, Array.size_append, Array.size_map, Array.size_replicate]
    have : a.data.size = a.size := rfl
    omega
  have e := run_bytes_of_string (P := P) w src dst el a hsrc hdst hel
  obtain ⟨g1, g2⟩ := hs.allocFrozen (w' := w.drew.alloc (.cells C el (C.size, C.size + 1))) C el (C.size, C.size + 1) rfl rfl rfl rfl
  refine ⟨.slice (some ⟨w.heap.size, 0, none⟩) a.size cap, _, _, .inl (fun _ _ _ _ => ?_), g2, g1, ?_⟩
  · simp only [execOp, ex]
    simp [e, C, cap]
  · simp only [AV.pub, Gr.pub]
    have e2 : (bs.map fun b => AV.int .u8 (b : Nat)).flatMap AV.cells = bs.map fun b => AV.int .u8 (b : Nat) := by
      clear hr hsz ha hx
      induction bs with
      | nil => rfl
      | cons x l ih => simp [List.flatMap_cons, ih, AV.cells]
    have hll : (bs.map fun b => AV.int .u8 (b : Nat)).length = a.size := by rw [List.length_map, hsz]
    rw [← hll]
    refine .sl 1 _ .any _ _ (fun j => C.getD j undef) trivial (by rw [hll]; exact hcap) (fun _ => rfl) (fun e he => ?_) (.inl fun e he => ?_) (fun j hj => ?_) (fun j c hc => ?_)
    · obtain ⟨b, _, rfl⟩ := List.mem_map.1 he; rfl
    · obtain ⟨b, _, rfl⟩ := List.mem_map.1 he; rfl
    · rw [e2, hll] at hj
      rw [add_spot rfl]
      simp only [Nat.zero_add]
      rw [freeze_at (Nat.zero_le _) (by omega)]
      simp [Array.getD, show j < C.size by omega]
    · rw [e2, List.getElem?_map] at hc
      cases hb : bs[j]? with
      | none => rw [hb] at hc; cases hc
      | some b =>
        rw [hb] at hc
        simp only [Option.map_some, Option.some.injEq] at hc
        subst hc
        rw [← ha, List.getElem?_map] at hb
        cases hq : a.data.toList[j]? with
        | none => rw [hq] at hb; cases hb
        | some q =>
          rw [hq] at hb
          simp only [Option.map_some, Option.some.injEq] at hb
          have hj : j < a.data.size := by have := (List.getElem?_eq_some_iff.1 hq).1; simpa using this
          have : C[j]? = some (.int .u8 q.toNat) := by
            have hq' : a.data[j]? = some q := by simpa using hq
            show (a.data.map (fun b => Value.int .u8 b.toNat) ++ Array.replicate (cap - a.size) (.int .u8 0))[j]? = _
            rw [Array.getElem?_append_left (by rw [Array.size_map]; exact hj), Array.getElem?_map, hq']
            rfl
          simp only [Array.getD_eq_getD_getElem?, this, Option.getD_some, hb]
          exact .int _ _
end
end Go.Ab
end
section
/- Each operation of the abstract side is the machine's (12): a string of bytes, min and max. -/
namespace Go.Ab
set_option linter.unusedSimpArgs false

theorem natBytes_inv : ∀ (es : List AV) (bs : List Nat), natBytes es = some bs → ∃ ns : List Int, es = ns.map (AV.int .u8) ∧ bs = ns.map Int.toNat ∧ ∀ n, n ∈ ns → n.toNat < 256
  | [], bs, h => by
    simp only [natBytes, Option.some.injEq] at h
    subst h
    exact ⟨[], rfl, rfl, fun _ hn => by cases hn⟩
  | e :: es, bs, h => by
    unfold natBytes at h
    split at h
    · rename_i heq
      simp at heq
    · rename_i n es' heq
      simp only [List.cons.injEq] at heq
      obtain ⟨rfl, rfl⟩ := heq
      split at h
      · rename_i hlt
        cases hb : natBytes es with
        | none => rw [hb] at h; cases h
        | some l =>
          rw [hb] at h
          simp only [Option.map_some, Option.some.injEq] at h
          subst h
          obtain ⟨ns, h1, h2, h3⟩ := natBytes_inv es l hb
          exact ⟨n :: ns, by rw [h1]; rfl, by rw [h2]; rfl, fun m hm => by
            rcases List.mem_cons.1 hm with rfl | hm
            · exact hlt
            · exact h3 m hm⟩
      · cases h
    · cases h

theorem foldl_push : ∀ (ns : List Int) (s : ByteArray), (ns.foldl (fun r n => r.push (UInt8.ofNat n.toNat)) s).data.toList = s.data.toList ++ ns.map fun n => UInt8.ofNat n.toNat
  | [], s => by simp
  | n :: ns, s => by
    simp only [List.foldl_cons]
    rw [foldl_push ns]
    simp [ByteArray.push]

section
variable {P : Program} {ty : TypeId} {ρ : Operand → Value} {κ : Kap} {s : St} {w : World} (hs : Sim κ s w)
include hs

theorem gives_bytesToStr {E : Env} (hE : E.F = .not) {k : AV → St → Res} {r : Res} (hf : r ≠ .fail) {src dst el : TypeId} {x : Operand} {v : AV} (hsrc : P.underlying src = some (.slice el)) (hel : P.underlying el = some (.int .u8)) (hdst : P.underlying dst = some .string)
    (hx : VR κ (s.depth + 1) (v.pub s.depth) (ρ x)) (hr : bytesToStrV E s k v = r) : ∃ v', k v' s = r ∧ Gives P (.convert src dst x) ty ρ κ s w v' s := by
  have hne : ∀ bs, v ≠ .str bs := fun bs h => by subst h; exact absurd hr.symm hf
  have hr' : (match elemsOf s v with
    | some (_, es) => oV E s k ((natBytes es).map .str)
    | none => .fail) = r := by
    unfold bytesToStrV at hr
    split at hr
    · exact absurd hr.symm hf
    · exact hr
  cases hel' : elemsOf s v with
  | none => rw [hel'] at hr'; exact absurd hr'.symm hf
  | some p =>
    obtain ⟨z, es⟩ := p
    rw [hel'] at hr'
    simp only at hr'
    cases hb : natBytes es with
    | none => rw [hb] at hr'; exact absurd hr'.symm hf
    | some bs =>
      rw [hb] at hr'
      simp only [Option.map_some, oV, hE, Force.not] at hr'
      refine ⟨_, hr', ?_⟩
      obtain ⟨ns, h1, h2, h3⟩ := natBytes_inv es bs hb
      obtain ⟨hform, _, _⟩ := elems_cells hs hx hel'
      rcases hform with ⟨bs', a, rfl, _⟩ | ⟨A, c, hX, hA0, hrd⟩
      · exact absurd rfl (hne bs')
      have hfl : es.flatMap AV.cells = ns.map (AV.int .u8) := by
        rw [h1]
        clear h1 h2 h3 hb hel' hrd hA0 hX
        induction ns with
        | nil => rfl
        | cons n ns ih => simp [List.flatMap_cons, ih, AV.cells]
      have hlen : es.length = ns.length := by rw [h1, List.length_map]
      have hfin : (ns.map fun n => UInt8.ofNat n.toNat).map UInt8.toNat = bs := by
        rw [h2, List.map_map]
        refine List.map_congr_left (fun n hn => ?_)
        simp only [Function.comp, UInt8.toNat_ofNat']
        exact Nat.mod_eq_of_lt (h3 n hn)
      cases A with
      | none =>
        have : es = [] := hA0 rfl
        have hns : ns = [] := List.eq_nil_of_length_eq_zero (by rw [← hlen, this]; rfl)
        subst hns
        refine gives_same hs (.string .empty) (fun _ _ _ _ => ?_) ?_
        · simp only [execOp, hX]
          have e1 := run_convert_bytes_string (P := P) w src dst el none es.length c hsrc hel hdst
          have e2 : (Conv.bytesToString (.slice none es.length c)).run P w = .ok (.string .empty) w := by simp [Conv.bytesToString]
          rw [e2] at e1
          simp [e1]
        · exact .str _ _ (by rw [← hfin]; rfl)
      | some a =>
        obtain ⟨vals, r1, r2⟩ := hrd a rfl
        have hcell : ∀ j v, (ns.map (Value.int .u8))[j]? = some v → w.cell? (a.add j) = some v := fun j v hj => by
          rw [List.getElem?_map] at hj
          cases hq : ns[j]? with
          | none => rw [hq] at hj; cases hj
          | some n =>
            rw [hq] at hj
            simp only [Option.map_some, Option.some.injEq] at hj
            have hj' := (List.getElem?_eq_some_iff.1 hq).1
            rw [r1 j (by rw [hfl, List.length_map]; exact hj')]
            have := r2 j (.int .u8 n) (by rw [hfl, List.getElem?_map, hq]; rfl)
            rw [this.int_inv, ← hj]
        have hl := run_loadCells_list (P := P) w a (ns.map (Value.int .u8)) hcell
        rw [List.length_map, ← hlen] at hl
        refine gives_same hs _ (fun _ _ _ _ => ?_) (.str _ (ns.foldl (fun r n => r.push (UInt8.ofNat n.toNat)) ByteArray.empty) ?_)
        · simp only [execOp, hX]
          have e1 := run_convert_bytes_string (P := P) w src dst el (some a) es.length c hsrc hel hdst
          rw [run_bytesToString w a es.length c ns hl] at e1
          simp [e1]
        · rw [foldl_push]
          rw [List.map_append, hfin]
          rfl
end
end Go.Ab
end
section
/- Each operation of the abstract side is the machine's (13): maps whose keys are numbers, strings or bools. -/
namespace Go.Ab
set_option linter.unusedSimpArgs false

/-- The type of a map's keys. -/
def okKD : KD → TypeDesc → Bool
  | .int k, .int k' => decide (k = k')
  | .str, .string => true
  | .bool, .bool => true
  | _, _ => false

theorem VR.pub_eq' {κ : Kap} {D : Nat} {v : AV} {x : Value} (h : VR κ D v x) {d : Nat} : v.pub d = v := by
  cases h <;> try rfl
  rename_i sz es g a cap vals hg h1 h2 h3 h4 h5 h6
  cases g <;> try rfl
  rename_i l
  cases l with
  | l i => exact absurd hg (by simp [GrOK])
  | g d i => rfl

theorem key_is {κ : Kap} {D : Nat} {kd : KD} {d : TypeDesc} {x : AV} {X : Value} (hd : okKD kd d = true) (hk : isKey kd x = true) (hx : VR κ D x X) : MapKept.IsKey d X := by
  cases kd <;> cases d <;> simp [okKD] at hd <;> cases x <;> simp [isKey] at hk
  · subst hd; subst hk; rw [hx.int_inv]; rfl
  · obtain ⟨s, rfl, _⟩ := hx.str_inv; trivial
  · rw [hx.bool_inv]; trivial

theorem keyEq_now {κ : Kap} {D : Nat} {kd : KD} {d : TypeDesc} {x y : AV} {X Y : Value} {b : Bool} (hd : okKD kd d = true) (hk : isKey kd x = true) (hx : VR κ D x X) (hy : VR κ D y Y) (h : keyEq x y = some b) : Instr.sameNow d X Y = some b ∧ (b = true → X = Y) := by
  unfold keyEq at h
  split at h
  · rename_i k a k' a'
    split at h
    · rename_i hkk
      subst hkk
      simp only [Option.some.injEq] at h
      rw [hx.int_inv, hy.int_inv]
      cases kd <;> simp [isKey] at hk
      cases d <;> simp [okKD] at hd
      refine ⟨by simp [Instr.sameNow, ← h], fun hb => ?_⟩
      subst hb
      simp at h
      rw [h]
    · cases h
  · rename_i a a'
    simp only [Option.some.injEq] at h
    obtain ⟨s, rfl, hs⟩ := hx.str_inv
    obtain ⟨s', rfl, hs'⟩ := hy.str_inv
    cases kd <;> simp [isKey] at hk
    cases d <;> simp [okKD] at hd
    have key : s = s' ↔ a = a' := by
      rw [← hs, ← hs']
      constructor
      · rintro rfl; rfl
      · intro e
        have := (List.map_inj_right (f := UInt8.toNat) (fun a b h => UInt8.toNat_inj.1 h)).1 e
        cases s; cases s'
        simp at this
        rw [this]
    refine ⟨?_, fun hb => ?_⟩
    · simp only [Instr.sameNow, Option.some.injEq]
      rw [← h, Bool.eq_iff_iff, MapKept.bytes_beq, key]
      simp
    · subst hb
      simp at h
      rw [key.2 h]
  · simp only [Option.some.injEq] at h
    rw [hx.bool_inv, hy.bool_inv]
    cases kd <;> simp [isKey] at hk
    cases d <;> simp [okKD] at hd
    refine ⟨by simp [Instr.sameNow, ← h], fun hb => ?_⟩
    subst hb
    simp at h
    rw [h]
  · cases h

theorem MapR.uncons {κ : Kap} {D : Nat} {p : AV × AV} {es : List (AV × AV)} {l : List MapEntry} (h : MapR κ D (p :: es) l) : ∃ e l', l = e :: l' ∧ VR κ D p.1 e.key ∧ VR κ D p.2 e.val ∧ MapR κ D es l' := by
  cases l with
  | nil => exact absurd h.1 (by simp)
  | cons e l' =>
    refine ⟨e, l', rfl, (h.2 0 p e rfl rfl).1, (h.2 0 p e rfl rfl).2, by have := h.1; simpa using this, fun j q f hq hf => h.2 (j + 1) q f (by simpa using hq) (by simpa using hf)⟩

theorem findKey_sound {κ : Kap} {D : Nat} {kd : KD} {d : TypeDesc} {x : AV} {X : Value} (hd : okKD kd d = true) (hk : isKey kd x = true) (hx : VR κ D x X) : ∀ (es : List (AV × AV)) (l : List MapEntry) (i : Nat) (r : Option AV), MapR κ D es l → findKey x es = some r →
    (r = none ∧ Instr.findNow d X l i = some none) ∨ ∃ v j e, r = some v ∧ Instr.findNow d X l i = some (some (i + j, e.val)) ∧ l[j]? = some e ∧ e.key = X ∧ VR κ D v e.val
  | [], l, i, r, hm, h => by
    have : l = [] := List.eq_nil_of_length_eq_zero hm.1
    subst this
    simp only [findKey, Option.some.injEq] at h
    exact .inl ⟨h.symm, rfl⟩
  | (y, v) :: es, l, i, r, hm, h => by
    obtain ⟨e, l', rfl, hy, hv, hm'⟩ := hm.uncons
    simp only [findKey] at h
    cases hb : keyEq x y with
    | none => rw [hb] at h; cases h
    | some b =>
      rw [hb] at h
      obtain ⟨h1, h2⟩ := keyEq_now hd hk hx hy hb
      cases b with
      | true =>
        simp only [Option.some.injEq] at h
        exact .inr ⟨v, 0, e, h.symm, by simp [Instr.findNow, h1], rfl, (h2 rfl).symm, hv⟩
      | false =>
        simp only at h
        rcases findKey_sound hd hk hx es l' (i + 1) r hm' h with ⟨e1, e2⟩ | ⟨v', j, e', e1, e2, e3, e4, e5⟩
        · exact .inl ⟨e1, by simp [Instr.findNow, h1, e2]⟩
        · refine .inr ⟨v', j + 1, e', e1, ?_, by simpa using e3, e4, e5⟩
          simp [Instr.findNow, h1, e2]
          omega

theorem putKey_sound {κ : Kap} {D : Nat} {kd : KD} {d : TypeDesc} {x v : AV} {X V : Value} (hd : okKD kd d = true) (hk : isKey kd x = true) (hx : VR κ D x X) (hv : VR κ D v V) : ∀ (es : List (AV × AV)) (l : List MapEntry) (i : Nat) (es' : List (AV × AV)), MapR κ D es l → putKey x v es = some es' →
    (Instr.findNow d X l i = some none ∧ ∀ clock, MapR κ D es' (l ++ [{ key := X, val := V, born := clock }])) ∨ ∃ j e, Instr.findNow d X l i = some (some (i + j, e.val)) ∧ l[j]? = some e ∧ e.key = X ∧ MapR κ D es' (l.set j { e with key := X, val := V })
  | [], l, i, es', hm, h => by
    have : l = [] := List.eq_nil_of_length_eq_zero hm.1
    subst this
    simp only [putKey, Option.some.injEq] at h
    subst h
    refine .inl ⟨rfl, fun clock => ⟨rfl, fun j p e hp he => ?_⟩⟩
    cases j with
    | zero => simp at hp he; subst hp; subst he; exact ⟨hx, hv⟩
    | succ j => simp at hp
  | (y, u) :: es, l, i, es', hm, h => by
    obtain ⟨e, l', rfl, hy, hu, hm'⟩ := hm.uncons
    simp only [putKey] at h
    cases hb : keyEq x y with
    | none => rw [hb] at h; cases h
    | some b =>
      rw [hb] at h
      obtain ⟨h1, h2⟩ := keyEq_now hd hk hx hy hb
      cases b with
      | true =>
        simp only [Option.some.injEq] at h
        subst h
        refine .inr ⟨0, e, by simp [Instr.findNow, h1], rfl, (h2 rfl).symm, by have := hm.1; simpa using this, fun j p q hp hq => ?_⟩
        cases j with
        | zero =>
          simp at hp hq
          subst hp
          subst hq
          exact ⟨by rw [h2 rfl]; exact hy, hv⟩
        | succ j => exact hm'.2 j p q (by simpa using hp) (by simpa using hq)
      | false =>
        simp only at h
        cases hp : putKey x v es with
        | none => rw [hp] at h; cases h
        | some es₁ =>
          rw [hp] at h
          simp only [Option.map_some, Option.some.injEq] at h
          subst h
          have cons : ∀ {l₁}, MapR κ D es₁ l₁ → MapR κ D ((y, u) :: es₁) (e :: l₁) := fun hm₁ => by
            refine ⟨by simp [hm₁.1], fun j p q hp hq => ?_⟩
            cases j with
            | zero => simp at hp hq; subst hp; subst hq; exact ⟨hy, hu⟩
            | succ j => exact hm₁.2 j p q (by simpa using hp) (by simpa using hq)
          rcases putKey_sound hd hk hx hv es l' (i + 1) es₁ hm' hp with ⟨e1, e2⟩ | ⟨j, e', e1, e2, e3, e4⟩
          · exact .inl ⟨by simp [Instr.findNow, h1, e1], fun clock => by simpa using cons (e2 clock)⟩
          · refine .inr ⟨j + 1, e', ?_, by simpa using e2, e3, by simpa using cons e4⟩
            simp [Instr.findNow, h1, e1]
            omega

section
variable {P : Program} {ty : TypeId} {ρ : Operand → Value} {κ : Kap} {s : St} {w : World} (hs : Sim κ s w)
include hs

theorem gives_makeMap {E : Env} (hE : E.F = .not) {k : AV → St → Res} {r : Res} (hf : r ≠ .fail) {t : TypeId} {b : Option Loc} (hr : makeMapV E s k b = r) : ∃ v' s', k v' s' = r ∧ Gives P (.makeMap t none) ty ρ κ s w v' s' := by
  unfold makeMapV at hr
  cases b with
  | none => exact absurd hr.symm hf
  | some b =>
    simp only at hr
    cases hby : s.newBy b (.map []) with
    | none => rw [hby] at hr; exact absurd hr.symm hf
    | some p =>
      obtain ⟨l, s'⟩ := p
      rw [hby] at hr
      simp only [hE, Force.not] at hr
      obtain ⟨dd, ii, hl, hnw⟩ := NewAt.by hby
      obtain ⟨κ', g1, g2, g3, g4⟩ := hs.newMap (w' := w.alloc (.map #[] 0)) hnw rfl rfl rfl rfl
      refine ⟨_, _, hr, .map (some w.heap.size), κ', w.alloc (.map #[] 0), .inl (fun dst pos after guard => ?_), g2, g1, ?_⟩
      · simp [execOp, Instr.makeMap, Result.andThen]
      · simp only [AV.pub, hl]
        rw [← g3]
        exact .map dd ii (Nat.lt_succ_of_le hnw.le) g4

theorem gives_mapPut {E : Env} (hE : E.F = .not) {k : AV → St → Res} {r : Res} (hf : r ≠ .fail) {o : Op} {t kt et : TypeId} {d : TypeDesc} {kd : KD} (ht : P.underlying t = some (.map kt et)) (hkt : P.underlying kt = some d) (hd : okKD kd d = true) {m x v : AV} {M X V : Value}
    (hm : VR κ (s.depth + 1) (m.pub s.depth) M) (hx : VR κ (s.depth + 1) x X) (hv : VR κ (s.depth + 1) v V) (ho : ∀ dst pos after guard, execOp ρ ⟨dst, o, ty, pos, after, guard⟩ = (do Instr.mapUpdate t M X V; pure .skip : Sem Next)) (hr : mapPutV E s k kd m x v = r) :
    ∃ v' s', k v' s' = r ∧ Gives P o ty ρ κ s w v' s' := by
  cases m <;> simp only [mapPutV] at hr <;> try exact absurd hr.symm hf
  rename_i a
  simp only [AV.pub] at hm
  rw [← St.get_pub] at hr
  cases ha : a.pub s.depth with
  | l i => cases a <;> simp [Loc.pub] at ha
  | g e i =>
    rw [ha] at hr hm
    have hM : M = .map (some (κ.loc e i)) ∧ e < s.depth + 1 ∧ i < κ.n e := by cases hm; exact ⟨rfl, by assumption, by assumption⟩
    obtain ⟨rfl, he, hi⟩ := hM
    cases hg : s.get (.g e i) with
    | none => rw [hg] at hr; exact absurd hr.symm hf
    | some ob =>
      rw [hg] at hr
      cases ob <;> try exact absurd hr.symm hf
      rename_i es
      simp only [hE, Force.not] at hr
      obtain ⟨hb, hr1⟩ := bif_cases hr hf
      simp only [Bool.and_eq_true] at hb
      cases hp : putKey x v es with
      | none => rw [hp] at hr1; exact absurd hr1.symm hf
      | some es' =>
        rw [hp] at hr1
        simp only at hr1
        rw [← St.set_pub, ha] at hr1
        cases hset : s.set (.g e i) (.map es') with
        | none => rw [hset] at hr1; exact absurd hr1.symm hf
        | some s' =>
          rw [hset] at hr1
          obtain ⟨ents, clock, h1, h2⟩ := hs.obj e i _ hg
          have hxv := store_vals ha (VRs.cons hx (VRs.cons hv (VRs.nil _ _))) hb.2
          have hx' := hxv.2 0 x X rfl rfl
          have hv' := hxv.2 1 v V rfl rfl
          have hkey := key_is hd hb.1.1 hx'
          rcases putKey_sound hd hb.1.1 hx' hv' es ents.toList 0 es' h2 hp with ⟨e1, e2⟩ | ⟨j, en, e1, e2, e3, e4⟩
          · obtain ⟨g1, g2⟩ := hs.setMap (ents := ents.push { key := X, val := V, born := clock }) (clock := clock + 1) hg hset (by simpa using e2 clock)
            refine ⟨_, _, hr1, undef, κ, _, .inr ⟨fun dst pos after guard => ?_, rfl⟩, g2, g1, .dead _⟩
            rw [ho]
            simp [Instr.mapUpdate, run_underlying ht, MapKept.run_getObj_map h1, MapKept.run_checkKey hkt hkey, MapKept.run_findKey hkt e1, MapKept.run_setObj_map _ h1, Result.andThen]
          · have hj : ents[j]? = some en := by simpa using e2
            obtain ⟨g1, g2⟩ := hs.setMap (ents := ents.modify j fun e => { e with key := X, val := V }) (clock := clock) hg hset (by
              have : (ents.modify j fun e => { e with key := X, val := V }).toList = ents.toList.set j { en with key := X, val := V } := by
                apply List.ext_getElem?
                intro q
                simp only [Array.getElem?_toList, Array.getElem?_modify, List.getElem?_set]
                by_cases hq : j = q
                · subst hq
                  have hjl : j < ents.toList.length := (List.getElem?_eq_some_iff.1 e2).1
                  rw [if_pos rfl, if_pos rfl, if_pos hjl, hj]
                  rfl
                · simp [hq]
              rw [this]
              exact e4)
            refine ⟨_, _, hr1, undef, κ, _, .inr ⟨fun dst pos after guard => ?_, rfl⟩, g2, g1, .dead _⟩
            rw [ho]
            simp only [Nat.zero_add] at e1
            have e5 : (ents[j]?.map MapEntry.key).getD X = X := by rw [hj]; exact e3
            simp [Instr.mapUpdate, run_underlying ht, MapKept.run_getObj_map h1, MapKept.run_checkKey hkt hkey, MapKept.run_findKey hkt e1, MapKept.run_setObj_map _ h1, e5, MapKept.run_keyThatStays hkey, Result.andThen]

theorem gives_lookup {E : Env} (hE : E.F = .not) {k : AV → St → Res} {r : Res} (hf : r ≠ .fail) {t kt et : TypeId} {x y : Operand} {d : TypeDesc} {kd : KD} {ok : Bool} {zero : AV} {i : TypeInfo} {Z : Value} (ht : P.underlying t = some (.map kt et)) (hkt : P.underlying kt = some d) (hd : okKD kd d = true)
    (hi : P.info? et = some i) (hiz : i.zero = some Z) (hz : okVal zero Z = true) {m u : AV}
    (hm : VR κ (s.depth + 1) (m.pub s.depth) (ρ x)) (hx : VR κ (s.depth + 1) u (ρ y)) (hr : lookupV E s k kd zero ok m u = r) : ∃ v', k v' s = r ∧ Gives P (.lookup t x y ok) ty ρ κ s w v' s := by
  unfold lookupV at hr
  obtain ⟨hb, hr1⟩ := bif_cases hr hf
  clear hr
  have hkey := key_is hd hb hx
  have hzr : (zeroValue et).run P w = .ok Z w := by simp [zeroValue, typeInfo, hi, hiz]
  cases hes : entriesOf s m with
  | none => rw [hes] at hr1; exact absurd hr1.symm hf
  | some es =>
    rw [hes] at hr1
    simp only [hE, Force.not] at hr1
    -- the machine's entries
    have hent : ∃ l : Array MapEntry, MapR κ (s.depth + 1) es l.toList ∧ ((ρ x = .map none ∧ l = #[]) ∨ ∃ q clock, ρ x = .map (some q) ∧ w.heap[q]? = some (.map l clock)) := by
      cases m <;> simp only [entriesOf] at hes <;> try cases hes
      · rename_i a
        simp only [AV.pub] at hm
        rw [← St.get_pub] at hes
        cases ha : a.pub s.depth with
        | l j => cases a <;> simp [Loc.pub] at ha
        | g e j =>
          rw [ha] at hes hm
          have hM : ρ x = .map (some (κ.loc e j)) ∧ e < s.depth + 1 := by
            generalize ρ x = q at hm
            cases hm; exact ⟨rfl, by assumption⟩
          cases hg : s.get (.g e j) with
          | none => rw [hg] at hes; cases hes
          | some ob =>
            rw [hg] at hes
            cases ob <;> simp only [Option.some.injEq] at hes <;> try cases hes
            obtain ⟨ents, clock, h1, h2⟩ := hs.obj e j _ hg
            refine ⟨ents, ⟨h2.1, fun q p en hp hen => ⟨((h2.2 q p en hp hen).1).up (by have := hM.2; omega), ((h2.2 q p en hp hen).2).up (by have := hM.2; omega)⟩⟩, ?_⟩
            exact .inr ⟨_, clock, hM.1, h1⟩
      · have hM : ρ x = .map none := by
          simp only [AV.pub] at hm
          generalize ρ x = q at hm
          cases hm; rfl
        exact ⟨#[], ⟨rfl, fun q p en hp => by simp at hp⟩, .inl ⟨hM, rfl⟩⟩
    obtain ⟨l, hl, hrun⟩ := hent
    have hex : ∀ (a : Option (Nat × Value)) (V : Value), Instr.findNow d (ρ y) l.toList 0 = some a → V = (match a with | some (_, v) => v | none => Z) → ∀ dst pos after guard, (execOp ρ ⟨dst, .lookup t x y ok, ty, pos, after, guard⟩).run P w = .ok (.value (if ok then .tuple #[V, .bool a.isSome] else V)) w := by
      intro a V ha hV dst pos after guard
      have e1 : (Instr.lookup t (ρ x) (ρ y) ok).run P w = .ok (if ok then .tuple #[V, .bool a.isSome] else V) w := by
        rcases hrun with ⟨e, rfl⟩ | ⟨q, clock, e, h1⟩
        · cases a with
          | none => simp [Instr.lookup, run_underlying ht, e, MapKept.run_checkKey hkt hkey, MapKept.run_findKey hkt ha, hzr, hV, Result.andThen]
          | some p => simp [Instr.findNow] at ha
        · cases a with
          | none => simp [Instr.lookup, run_underlying ht, e, MapKept.run_getObj_map h1, MapKept.run_checkKey hkt hkey, MapKept.run_findKey hkt ha, hzr, hV, Result.andThen]
          | some p => simp [Instr.lookup, run_underlying ht, e, MapKept.run_getObj_map h1, MapKept.run_checkKey hkt hkey, MapKept.run_findKey hkt ha, hV, Result.andThen]
      simp only [execOp, Sem.run_bind, e1, Result.andThen]
      rfl
    cases hfk : findKey u es with
    | none => rw [hfk] at hr1; exact absurd hr1.symm hf
    | some fo =>
      rw [hfk] at hr1
      obtain ⟨hz1, hz2⟩ := okVal_sound zero Z hz
      rcases findKey_sound hd hb hx es l.toList 0 fo hl hfk with ⟨rfl, e2⟩ | ⟨v, j, e, rfl, e2, e3, e4, e5⟩
      · simp only at hr1
        refine ⟨_, hr1, gives_same hs _ (hex none Z e2 rfl) ?_⟩
        cases ok with
        | true =>
          have : VRs κ (s.depth + 1) [zero, .bool false] [Z, .bool false] := .cons (hz1 _ _) (.cons (.bool _) (.nil _ _))
          exact .tup _ _ this.1 this.2
        | false =>
          simp only [cond_false, Bool.false_eq_true, ↓reduceIte]
          rw [(hz1 κ (s.depth + 1)).pub_eq']
          exact hz1 _ _
      · simp only at hr1
        refine ⟨_, hr1, gives_same hs _ (hex _ e.val e2 rfl) ?_⟩
        cases ok with
        | true =>
          have : VRs κ (s.depth + 1) [v, .bool true] [e.val, .bool true] := .cons e5 (.cons (.bool _) (.nil _ _))
          exact .tup _ _ this.1 this.2
        | false =>
          simp only [cond_false, Bool.false_eq_true, ↓reduceIte]
          rw [e5.pub_eq']
          exact e5
end
end Go.Ab
end
