/- Each operation of the abstract side is the machine's (9): what is appended and copied. -/
import Derived.Test.YtnafklimohmfkaaDoorOps8
namespace Go.Ab
set_option linter.unusedSimpArgs false

section
variable {P : Program} {ty : TypeId} {ρ : Operand → Value} {κ : Kap} {s : St} {w : World} (hs : Sim κ s w)

theorem bytes_cells (b : ByteArray) (n : Nat) (κ : Kap) (D : Nat) : VRs κ D (((b.data.toList.map UInt8.toNat).take n).map fun m => AV.int .u8 (m : Nat)) ((b.extract 0 n).data.map fun c => Value.int .u8 c.toNat).toList := by
  have h0 : (b.extract 0 n).data.toList = b.data.toList.take n := by rw [take_drop_bytes]; simp
  have hl : b.data.toList.length = b.size := Array.length_toList
  refine ⟨?_, fun j c x hc hx => ?_⟩
  · rw [Array.toList_map, List.length_map, h0]; simp only [List.length_map, List.length_take]
  · rw [Array.toList_map, h0, List.getElem?_map] at hx
    rw [← List.map_take, List.map_map, List.getElem?_map] at hc
    cases hq : (b.data.toList.take n)[j]? with
    | none => rw [hq] at hx; cases hx
    | some q =>
      rw [hq] at hx hc
      simp only [Option.map_some, Option.some.injEq, Function.comp] at hx hc
      rw [← hx, ← hc]
      exact .int _ _

/-- The first so many elements of a slice or a string, in the machine. -/
theorem run_elems {X : Value} {sz : Nat} {es : List AV} {v : AV} (h : (∃ bs a, v = .str bs ∧ X = .string a ∧ a.data.toList.map UInt8.toNat = bs ∧ sz = 1 ∧ es = bs.map fun b => .int .u8 (b : Nat)) ∨
     (∃ A c, X = .slice A es.length c ∧ (A = none → es = []) ∧ ∀ a, A = some a → Reads κ (s.depth + 1) w a (es.flatMap AV.cells))) (hsz : ∀ e, e ∈ es → e.cells.length = sz) (n : Nat) (hn : n ≤ es.length) (w' : World) (hw : ∀ a, w'.cell? a = w.cell? a) :
    (Builtin.lenOf X).run P w' = .ok es.length w' ∧ ∃ xs : List Value, (Builtin.firstCells sz n X).run P w' = .ok xs.toArray w' ∧ VRs κ (s.depth + 1) ((es.take n).flatMap AV.cells) xs := by
  rcases h with ⟨bs, a, _, rfl, hb, rfl, rfl⟩ | ⟨A, c, rfl, h1, h2⟩
  · have hsz' : a.size = bs.length := by have := congrArg List.length hb; rw [List.length_map, Array.length_toList] at this; exact this
    simp only [List.length_map] at hn ⊢
    refine ⟨by simp [Builtin.lenOf, hsz'], ((a.extract 0 n).data.map fun c => Value.int .u8 c.toNat).toList, by simp only [Builtin.firstCells, Array.toArray_toList, Sem.run_pure], ?_⟩
    have := bytes_cells a n κ (s.depth + 1)
    rw [hb] at this
    have e : (List.map (fun b => AV.int IntKind.u8 ((b : Nat) : Int)) bs).take n = (bs.take n).map fun m => AV.int .u8 (m : Nat) := by rw [List.map_take]
    rw [e]
    have e2 : ∀ l : List Nat, (l.map fun m => AV.int .u8 (m : Nat)).flatMap AV.cells = l.map fun m => AV.int .u8 (m : Nat) := by
      intro l
      induction l with
      | nil => rfl
      | cons x l ih => simp [List.flatMap_cons, ih, AV.cells]
    rw [e2]
    exact this
  · refine ⟨by simp [Builtin.lenOf], ?_⟩
    cases A with
    | none =>
      have := h1 rfl
      subst this
      have : n = 0 := by simpa using hn
      subst this
      exact ⟨[], by simp [Builtin.firstCells], .nil _ _⟩
    | some a =>
      have hr := h2 a rfl
      have hfl := flat_len es sz hsz
      have hr' : Reads κ (s.depth + 1) w' a (es.flatMap AV.cells) := by
        obtain ⟨vals, r1, r2⟩ := hr
        exact ⟨vals, fun j hj => by rw [hw]; exact r1 j hj, r2⟩
      have hle : n * sz ≤ (es.flatMap AV.cells).length := by rw [hfl]; exact Nat.mul_le_mul_right _ hn
      obtain ⟨xs, e, hx⟩ := reads_load (P := P) hr' hle
      refine ⟨xs, by simp only [Builtin.firstCells]; exact e, ?_⟩
      have : (es.flatMap AV.cells).take (n * sz) = (es.take n).flatMap AV.cells := by
        have h3 : es.flatMap AV.cells = (es.take n).flatMap AV.cells ++ (es.drop n).flatMap AV.cells := by
          rw [← List.flatMap_append, List.take_append_drop]
        have h4 : ((es.take n).flatMap AV.cells).length = n * sz := by
          rw [flat_len _ sz (fun e he => hsz e (List.mem_of_mem_take he)), List.length_take, Nat.min_eq_left hn]
        rw [h3, ← h4, List.take_left]
      rw [← this]
      exact hx

theorem growBy_le (need : Nat) : ∀ (r c : Nat), Builtin.growBy need r c ≤ max c (need + (need + 768) / 4) := by
  intro r
  induction r with
  | zero => intro c; simp only [Builtin.growBy]; omega
  | succ r ih =>
    intro c
    simp only [Builtin.growBy]
    split
    · omega
    · have := ih (c + (c + 768) / 4)
      omega
theorem nextslicecap_le {need old : Nat} (h : old < need) : Builtin.nextslicecap need old ≤ 2 * need + 400 := by
  unfold Builtin.nextslicecap
  split
  · omega
  · split
    · omega
    · have := growBy_le need 4 old
      omega

/-- What is known of an append's types. -/
structure AppTy (P : Program) (t t2 el : TypeId) (sz bytes : Nat) (z : Value) : Prop where
  ht : P.underlying t = some (.slice el)
  ht2 : (∃ e', P.underlying t2 = some (.slice e')) ∨ P.underlying t2 = some .string
  info : ∃ i, P.info? el = some i ∧ i.size = sz ∧ i.bytes = bytes ∧ i.zero = some z
  zsz : z.cells.size = sz
  b0 : 0 < bytes
  b1 : bytes ≤ 1048576

theorem AppTy.size {t t2 el : TypeId} {sz bytes : Nat} {z : Value} (h : AppTy P t t2 el sz bytes z) : tySize P el = some sz := by
  obtain ⟨i, h1, h2, _⟩ := h.info
  simp [tySize, h1, h2]

/-- An append that has room. -/
theorem run_append_fits {t t2 el : TypeId} {sz bytes : Nat} {z : Value} (h : AppTy P t t2 el sz bytes z) {base : Option Addr} {sLen sCap n : Nat} {X : Value} {xs : List Value} (hl : (Builtin.lenOf X).run P w = .ok n w) (hc : (Builtin.firstCells sz n X).run P w = .ok xs.toArray w) (hn : sLen + n ≤ sCap)
    {w' : World} (hst : match base with
      | some a => (storeCells (a.add (sLen * sz)) xs).run P w = .ok () w'
      | none => w' = w) : (Builtin.append_ #[t, t2] ty #[.slice base sLen sCap, X]).run P w = .ok (.slice base (sLen + n) sCap) w' := by
  cases base with
  | none =>
    subst hst
    rcases h.ht2 with ⟨e', hd⟩ | hd <;> simp [Builtin.append_, run_underlying h.ht, run_underlying hd, run_sizeOfB h.size, hl, hc, hn]
  | some a =>
    simp only at hst
    rcases h.ht2 with ⟨e', hd⟩ | hd <;> simp [Builtin.append_, run_underlying h.ht, run_underlying hd, run_sizeOfB h.size, hl, hc, hn, hst]

/-- An append that has none: a new block. -/
theorem run_append_grows {t t2 el : TypeId} {sz bytes : Nat} {z : Value} (h : AppTy P t t2 el sz bytes z) {base : Option Addr} {sLen sCap n : Nat} {X : Value} {os xs : List Value} (hl : (Builtin.lenOf X).run P w = .ok n w)
    (hc : (Builtin.firstCells sz n X).run P w.drew = .ok xs.toArray w.drew) (ho : (Builtin.firstCells sz sLen (.slice base sLen sCap)).run P w.drew = .ok os.toArray w.drew)
    (hxl : xs.length = n * sz) (hol : os.length = sLen * sz) (hn : sCap < sLen + n) (hb : (sLen + n) * bytes ≤ 1099511627776) :
    ∃ cap C, sLen + n ≤ cap ∧ C.size = cap * sz ∧ (∀ j, j < (sLen + n) * sz → C[j]? = (os ++ xs)[j]?) ∧
      (Builtin.append_ #[t, t2] ty #[.slice base sLen sCap, X]).run P w = .ok (.slice (some ⟨w.heap.size, 0, none⟩) (sLen + n) cap) (w.drew.alloc (.cells C el)) := by
  obtain ⟨i, hi, hisz, hib, hiz⟩ := h.info
  have hneed : (sLen + n) * 1 ≤ (sLen + n) * bytes := Nat.mul_le_mul_left _ h.b0
  have hnot : ¬ (sLen + n ≤ sCap) := by omega
  have hcapb : Builtin.nextslicecap (sLen + n) sCap * bytes ≤ 281474976710656 := by
    have h1 := nextslicecap_le hn
    have h2 : Builtin.nextslicecap (sLen + n) sCap * bytes ≤ (2 * (sLen + n) + 400) * bytes := Nat.mul_le_mul_right _ h1
    have h3 : (2 * (sLen + n) + 400) * bytes = 2 * ((sLen + n) * bytes) + 400 * bytes := by rw [Nat.add_mul, Nat.mul_assoc]
    have h4 := h.b1
    omega
  let cap := (Question.appendCap (sLen + n) sCap el).cut (w.tape w.drawn (.appendCap (sLen + n) sCap el))
  have hcap : sLen + n ≤ cap := by simp only [cap, Question.cut]; omega
  let C : Array Value := os.toArray ++ xs.toArray ++ Builtin.zeroCells z.cells (cap - (sLen + n))
  have hCs : C.size = cap * sz := by
    have e1 : (sLen + n) * sz + (cap - (sLen + n)) * sz = cap * sz := by rw [← Nat.add_mul]; congr 1; omega
    have e2 : sLen * sz + n * sz = (sLen + n) * sz := by rw [Nat.add_mul]
    simp only [C, Array.size_append, List.size_toArray, hxl, hol, Builtin.zeroCells, Array.size_map, Array.size_range, h.zsz]
    omega
  refine ⟨cap, C, hcap, hCs, fun j hj => ?_, ?_⟩
  · have e2 : sLen * sz + n * sz = (sLen + n) * sz := by rw [Nat.add_mul]
    simp only [C]
    rw [Array.getElem?_append_left (by simp only [Array.size_append, List.size_toArray, hxl, hol]; omega)]
    simp
  · have h63 : ¬ (9223372036854775807 < ((sLen : Int) + (n : Int))) := by omega
    have h48 : ¬ (281474976710656 < Builtin.nextslicecap (sLen + n) sCap * i.bytes) := by rw [hib]; omega
    have hq : (Question.appendCap (sLen + n) sCap el).forced = false := rfl
    have hnot' : ¬ (sLen + n ≤ sCap) := hnot
    rcases h.ht2 with ⟨e', hd⟩ | hd <;> simp [Builtin.append_, run_underlying h.ht, run_underlying hd, run_sizeOfB h.size, typeInfo, hi, hl, hnot', h63, h48, hq, hc, ho, zeroValue, hiz, newRow, C, cap]
end
end Go.Ab
