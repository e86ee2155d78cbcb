/- From the evaluator to a call from outside: every cell that there is is read only; there is no mutable object. -/
import Derived.Test.YtnafklimohmfkaaDoorCall3
namespace Go.Ab
set_option linter.unusedSimpArgs false

def noSt : St := { own := [], up := [], ro := [] }
def initKap (w : World) : Kap := { F := fun a => if a.spot = none then w.cell? a else none, n := fun _ => 0, loc := fun _ _ => 0, tk := fun _ _ _ => none }

theorem Sim.init (w : World) : Sim (initKap w) noSt w := by
  have hno : ∀ d i, noSt.get (.g d i) = none := by intro d i; simp [St.get, noSt]
  refine ⟨fun a v h => ?_, fun d l h => ?_, fun d i o h => ?_, fun d i o d' i' o' b h => ?_⟩
  · simp only [initKap] at h
    split at h
    · rename_i hs; exact ⟨hs, h⟩
    · cases h
  · unfold St.fr noSt at h
    simp at h
    simp [h, initKap]
  · rw [hno] at h; cases h
  · rw [hno] at h; cases h

/-- What a call from outside leaves: what there was is as it was. -/
structure Left (w w' : World) : Prop where
  size : w.heap.size ≤ w'.heap.size
  os : w'.os = w.os
  tape : w'.tape = w.tape
  output : w'.output = w.output
  old : ∀ b, b < w.heap.size → w'.heap[b]? = w.heap[b]?

theorem Ext.left {w w' : World} {κ' : Kap} {s' : St} (h : Ext (initKap w) noSt w κ' s' w') : Left w w' :=
  ⟨h.size, h.os, h.tape, h.output, fun b hb => h.chg b hb (fun ⟨d, i, o, hg, _⟩ => by simp [St.get, noSt] at hg)⟩

section
variable {P : Program} (hm : P.follows .mixedOrders = true) {T : TT} (hT : T.OK P) {Tab : Nat → Option AFn} (hTab : TabOK P T Tab) {G : Nat → AV} {X : Nat → List AV → St → Res} (hX : XOK P Tab G X)
include hm hT hTab hX
theorem calls_init {n f : Nat} {args : List AV} {s' : St} {w : World} {xs : List Value} (h : call .not Tab G X n f args noSt = .ok (.bool true) s') (hf : Tab f ≠ none) (hG : GOK (initKap w) G) (hx : VRs (initKap w) 1 args xs) :
    Calls P f xs.toArray w fun e w' => e = .returned (.bool true) ∧ Left w w' := by
  have hfn : ∃ fn, P.funcs[f]? = some fn ∧ fn.body.isSome = true ∧ (fn.name == "runtime.NumGoroutine") = false := by
    cases ht : Tab f with
    | none => exact absurd ht hf
    | some afn =>
      obtain ⟨fn, h1, h2⟩ := hTab f afn ht
      unfold okFn at h2
      cases hb : fn.body with
      | none => rw [hb] at h2; cases h2
      | some c =>
        rw [hb] at h2
        simp only [Bool.and_eq_true, Bool.not_eq_true'] at h2
        exact ⟨fn, h1, by simp [hb], h2.1.1.1.1⟩
  have hdone : ∀ x w', After (initKap w) noSt w (.bool true) s' x w' → x = .bool true ∧ Left w w' := fun x w' ⟨κ', h1, _, h3⟩ => by
    exact ⟨VR.bool_inv (b := true) h3, h1.left⟩
  rcases (call_ok hm hT hTab hX n 0).ok f args noSt _ s' (initKap w) w xs h (Sim.init w) hG hx with ⟨x, w', h1, h2⟩ | ⟨h1, h2⟩
  · obtain ⟨fn, q1, q2, q3⟩ := hfn
    exfalso
    have q3' : ¬ fn.name = "runtime.NumGoroutine" := by simpa using q3
    cases hb : fn.body with
    | none => rw [hb] at q2; cases q2
    | some c => simp [callFunc, q1, q3', hb] at h1
  · exact h2.mono fun e w' ⟨x, he, hA⟩ => by
      obtain ⟨e1, e2⟩ := hdone x w' hA
      exact ⟨by rw [he, e1], e2⟩
end
end Go.Ab

