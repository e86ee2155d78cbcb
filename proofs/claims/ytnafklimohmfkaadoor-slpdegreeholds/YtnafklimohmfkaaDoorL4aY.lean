/- What a reading of a program value is. -/
import Derived.Test.YtnafklimohmfkaaDoorY7
import Derived.Test.YtnafklimohmfkaaDoorTd
namespace Go.AbY
open Go.Ab
set_option linter.unusedSimpArgs false
section
variable {H : Type}
abbrev shInts : Sh := .sl (.int .i64)
abbrev shIns : Sh := .st [.int .i64, .int .i64, .int .i64]
abbrev shProg : Sh := .st [.int .i64, .sl shIns, .sl shInts, shInts]
theorem encD_sl (e : Sh) (es rest : List (DataW H)) : encD (.sl e) (.slice es rest) = [.sl e.size (es.map fun x => elemV (encD e x)) .any] := by rw [encD]
theorem encD_st (fs : List Sh) (ds : List (DataW H)) : encD (.st fs) (.agg ds) = encDs fs ds := by rw [encD]
theorem encDs_cons (s : Sh) (ss : List Sh) (d : DataW H) (ds : List (DataW H)) : encDs (s :: ss) (d :: ds) = encD s d ++ encDs ss ds := by rw [encDs]
theorem list_choose {α β : Type} {f : α → AV} {g : β → AV} {p : β → Prop} : ∀ (es : List α), (∀ x, x ∈ es → ∃ y, f x = g y ∧ p y) → ∃ ys : List β, es.map f = ys.map g ∧ ys.length = es.length ∧ ∀ y, y ∈ ys → p y
  | [], _ => ⟨[], rfl, rfl, fun y h => by cases h⟩
  | x :: es, h => by
    obtain ⟨y, hy, hp⟩ := h x (by simp)
    obtain ⟨ys, h1, h2, h3⟩ := list_choose es (fun x hx => h x (by simp [hx]))
    refine ⟨y :: ys, by simp [hy, h1], by simp [h2], fun z hz => ?_⟩
    rcases List.mem_cons.1 hz with rfl | hz
    · exact hp
    · exact h3 z hz
def grOK (g : Gr) : Prop := g = .nil ∨ g = .any
theorem inv_ints {d : DataW H} (h : FitD shInts d) : ∃ (l : List Int) (g : Gr), encD shInts d = [sl1 l g] ∧ grOK g ∧ l.length ≤ maxLen := by
  simp only [FitD] at h
  rcases h with rfl | ⟨es, rest, rfl, hl, hx⟩
  · exact ⟨[], .nil, rfl, .inl rfl, Nat.zero_le _⟩
  · obtain ⟨l, h1, h2, _⟩ := list_choose (f := fun x => elemV (encD (.int .i64) x)) (g := I) (p := fun _ => True) es (fun x hxx => by
      obtain ⟨n, rfl, _⟩ := hx x hxx
      exact ⟨n, rfl, trivial⟩)
    refine ⟨l, .any, ?_, .inr rfl, by omega⟩
    rw [encD_sl, h1]
    rfl
theorem inv_ins {d : DataW H} (h : FitD shIns d) : ∃ x : Ins, elemV (encD shIns d) = x.enc := by
  simp only [FitD, FitDs] at h
  obtain ⟨ds, rfl, d1, l1, rfl, ⟨n1, rfl, _⟩, d2, l2, rfl, ⟨n2, rfl, _⟩, d3, l3, rfl, ⟨n3, rfl, _⟩, rfl⟩ := h
  exact ⟨⟨n1, n2, n3⟩, rfl⟩
theorem inv_prog {d : DataW H} (h : FitD shProg d) : ∃ p : Prog, argD shProg d = p.enc ∧ grOK p.gi ∧ grOK p.gv ∧ grOK p.gr ∧ (∀ v, v ∈ p.vals → grOK v.2) ∧ p.vals.length ≤ maxLen ∧ ∀ v, v ∈ p.vals → v.1.length ≤ maxLen := by
  unfold shProg at h
  simp only [FitD, FitDs] at h
  obtain ⟨ds, rfl, d1, l1, rfl, ⟨n1, rfl, _⟩, d2, l2, rfl, h2, d3, l3, rfl, h3, d4, l4, rfl, h4, rfl⟩ := h
  have h4' : FitD shInts d4 := by simpa only [FitD] using h4
  obtain ⟨roots, gr, e4, hg4, _⟩ := inv_ints h4'
  have e2 : ∃ (ins : List Ins) (g : Gr), encD (.sl shIns) d2 = [.sl 3 (ins.map Ins.enc) g] ∧ grOK g := by
    rcases h2 with rfl | ⟨es, rest, rfl, hl, hx⟩
    · exact ⟨[], .nil, rfl, .inl rfl⟩
    · obtain ⟨l, h1, _, _⟩ := list_choose (f := fun x => elemV (encD shIns x)) (g := Ins.enc) (p := fun _ => True) es (fun x hxx => by
        obtain ⟨y, hy⟩ := inv_ins (d := x) (by simpa only [FitD, FitDs] using hx x hxx)
        exact ⟨y, hy, trivial⟩)
      refine ⟨l, .any, ?_, .inr rfl⟩
      rw [encD_sl, h1]
      rfl
  have e3 : ∃ (vs : List (List Int × Gr)) (g : Gr), encD (.sl shInts) d3 = [.sl 1 (vs.map fun v => sl1 v.1 v.2) g] ∧ grOK g ∧ vs.length ≤ maxLen ∧ ∀ v, v ∈ vs → grOK v.2 ∧ v.1.length ≤ maxLen := by
    rcases h3 with rfl | ⟨es, rest, rfl, hl, hx⟩
    · exact ⟨[], .nil, rfl, .inl rfl, Nat.zero_le _, fun v h => by cases h⟩
    · obtain ⟨l, h1, h2, h3⟩ := list_choose (f := fun x => elemV (encD shInts x)) (g := fun v : List Int × Gr => sl1 v.1 v.2) (p := fun v => grOK v.2 ∧ v.1.length ≤ maxLen) es (fun x hxx => by
        obtain ⟨y, g, hy, hg, hl⟩ := inv_ints (d := x) (by simpa only [FitD] using hx x hxx)
        exact ⟨(y, g), by rw [hy]; rfl, hg, hl⟩)
      refine ⟨l, .any, ?_, .inr rfl, by omega, h3⟩
      rw [encD_sl, h1]
      rfl
  obtain ⟨ins, gi, e2, hg2⟩ := e2
  obtain ⟨vs, gv, e3, hg3, hvl, hvv⟩ := e3
  refine ⟨⟨n1, ins, gi, vs, gv, roots, gr⟩, ?_, hg2, hg3, hg4, fun v hv => (hvv v hv).1, hvl, fun v hv => (hvv v hv).2⟩
  show AV.agg (encD shProg _) = _
  rw [encD_st, encDs_cons, encDs_cons, encDs_cons, encDs_cons, e2, e3, e4]
  rfl
theorem refless_sl {sz : Nat} {es : List AV} {g : Gr} (h : grOK g) : AV.refless (.sl sz es g) = true := by rcases h with rfl | rfl <;> rfl
theorem prog_refless (p : Prog) (h1 : grOK p.gi) (h2 : grOK p.gv) (h3 : grOK p.gr) : p.enc.refless = true := by
  simp only [Prog.enc, Prog.cs, AV.refless, AV.reflessL, refless_sl h1, refless_sl h2, refless_sl h3, Bool.and_self]
end
end Go.AbY
