/- Relate of the law's list and relations, as the abstract evaluator runs it: whatever lies in the frame of the law. -/
import Derived.Test.YtnafklimohmfkaaGreatDoorTwE0
import Derived.Test.YtnafklimohmfkaaGreatDoorTwE1
import Derived.Test.YtnafklimohmfkaaGreatDoorTwE2
import Derived.Test.YtnafklimohmfkaaGreatDoorTwE3
import Derived.Test.YtnafklimohmfkaaGreatDoorTwE4
import Derived.Test.YtnafklimohmfkaaGreatDoorTwE5
import Derived.Test.YtnafklimohmfkaaGreatDoorTwE6
import Derived.Test.YtnafklimohmfkaaGreatDoorTwE7
import Derived.Test.YtnafklimohmfkaaGreatDoorTwE8
import Derived.Test.YtnafklimohmfkaaGreatDoorTwE9
namespace Go.AbZ
open Go.Ab
set_option maxRecDepth 1000000
def mapSame : List (AV × AV) → List (AV × AV) → Bool
  | [], [] => true
  | (a, b) :: l, (c, d) :: m => AV.same a c && AV.same b d && mapSame l m
  | _, _ => false
theorem mapSame_eq : ∀ {l m : List (AV × AV)}, mapSame l m = true → l = m
  | [], [], _ => rfl
  | [], _ :: _, h => by cases h
  | _ :: _, [], h => by cases h
  | (a, b) :: l, (c, d) :: m, h => by
    simp only [mapSame, Bool.and_eq_true] at h
    rw [(AV.same_eq _ _).1 h.1.1, (AV.same_eq _ _).1 h.1.2, mapSame_eq h.2]
def objSame : AObj → AObj → Bool
  | .cells a, .cells b => AV.sameL a b
  | .tok a, .tok b => Nat.beq a b
  | .map a, .map b => mapSame a b
  | .gone, .gone => true
  | _, _ => false
theorem objSame_eq {a b : AObj} (h : objSame a b = true) : a = b := by
  cases a <;> cases b <;> simp only [objSame, Bool.false_eq_true] at h
  · rw [(AV.sameL_eq _ _).1 h]
  · rw [Nat.eq_of_beq_eq_true h]
  · rw [mapSame_eq h]
  · rfl
def objsSame : List AObj → List AObj → Bool
  | [], [] => true
  | a :: l, b :: m => objSame a b && objsSame l m
  | _, _ => false
theorem objsSame_eq : ∀ {l m : List AObj}, objsSame l m = true → l = m
  | [], [], _ => rfl
  | [], _ :: _, h => by cases h
  | _ :: _, [], h => by cases h
  | a :: l, b :: m, h => by
    simp only [objsSame, Bool.and_eq_true] at h
    rw [objSame_eq h.1, objsSame_eq h.2]
structure Ent where
  args : List AV
  own : List AObj
  v : AV
  post : List AObj
def Ent.ok (e : Ent) : Prop := ∀ o : List AObj, callω T1 (fun _ => .dead) X0 45 e.args { own := e.own, up := [o, []], ro := [] } = .ok e.v { own := e.post, up := [o, []], ro := [] }
def lookE (args : List AV) (own : List AObj) : List Ent → Option Ent
  | [] => none
  | e :: l => bif AV.sameL args e.args && objsSame own e.own then some e else lookE args own l
theorem lookE_ok {args : List AV} {own : List AObj} {e : Ent} : ∀ {l : List Ent}, lookE args own l = some e → e ∈ l ∧ args = e.args ∧ own = e.own
  | [], h => by cases h
  | x :: l, h => by
    simp only [lookE] at h
    cases hb : AV.sameL args x.args && objsSame own x.own with
    | true =>
      rw [hb] at h
      cases h
      simp only [Bool.and_eq_true] at hb
      exact ⟨List.mem_cons_self .., (AV.sameL_eq _ _).1 hb.1, objsSame_eq hb.2⟩
    | false =>
      rw [hb] at h
      have := lookE_ok h
      exact ⟨List.mem_cons_of_mem _ this.1, this.2⟩
def ents : List Ent := [⟨ea0, eo0, ev0, ep0⟩, ⟨ea1, eo1, ev1, ep1⟩, ⟨ea2, eo2, ev2, ep2⟩, ⟨ea3, eo3, ev3, ep3⟩, ⟨ea4, eo4, ev4, ep4⟩, ⟨ea5, eo5, ev5, ep5⟩, ⟨ea6, eo6, ev6, ep6⟩, ⟨ea7, eo7, ev7, ep7⟩, ⟨ea8, eo8, ev8, ep8⟩, ⟨ea9, eo9, ev9, ep9⟩]
theorem ent_ok {a : List AV} {w p : List AObj} {v : AV} (h : ∀ o : List AObj, call Force.two T1 (fun _ => .dead) X0 1000 45 a { own := w, up := [o, []], ro := [] } = .ok v { own := p, up := [o, []], ro := [] }) : Ent.ok ⟨a, w, v, p⟩ := fun o => by
  have := h o
  rw [Force.two_eq] at this
  exact callω_of T1 _ X0 (fun h => by cases h) this
theorem ents_ok : ∀ e ∈ ents, e.ok :=
  List.forall_mem_cons.2 ⟨ent_ok en0, List.forall_mem_cons.2 ⟨ent_ok en1, List.forall_mem_cons.2 ⟨ent_ok en2, List.forall_mem_cons.2 ⟨ent_ok en3, List.forall_mem_cons.2 ⟨ent_ok en4, List.forall_mem_cons.2 ⟨ent_ok en5, List.forall_mem_cons.2 ⟨ent_ok en6, List.forall_mem_cons.2 ⟨ent_ok en7, List.forall_mem_cons.2 ⟨ent_ok en8, List.forall_mem_cons.2 ⟨ent_ok en9, List.forall_mem_nil _⟩⟩⟩⟩⟩⟩⟩⟩⟩⟩
def okUp : List (List AObj) → Bool
  | [_, _] => true
  | [_, _, _] => true
  | [_, _, _, _] => true
  | _ => false
def isNone {α : Type} : List α → Bool
  | [] => true
  | _ => false
/-- What Check and compile answer for the law's list. -/
def X42 : Nat → List AV → St → Res := fun f args s =>
  bif Nat.beq f 42 then bif AV.sameL args [twL] && okUp s.up && isNone s.ro then .ok (.int .i64 0) s else .fail
  else bif Nat.beq f 45 then
    match lookE args s.own ents with
    | some e =>
      match s.up, s.ro with
      | [o, []], [] => .ok e.v { own := e.post, up := [o, []], ro := [] }
      | _, _ => .fail
    | none => .fail
  else .fail
theorem r42_ω {s : St} (h1 : okUp s.up = true) (h2 : isNone s.ro = true) : callω T1 (fun _ => .dead) X0 42 [twL] s = .ok (.int .i64 0) s := by
  obtain ⟨own, up, ro⟩ := s
  cases ro with
  | cons _ _ => cases h2
  | nil =>
    match up, h1 with
    | [b, c], _ => exact callω_of T1 _ X0 (fun h => by cases h) (by have := r42_2 own b c; rw [Force.half_eq] at this; exact this)
    | [b, c, d], _ => exact callω_of T1 _ X0 (fun h => by cases h) (by have := r42_3 own b c d; rw [Force.half_eq] at this; exact this)
    | [b, c, d, e], _ => exact callω_of T1 _ X0 (fun h => by cases h) (by have := r42_4 own b c d e; rw [Force.half_eq] at this; exact this)
theorem x42_ok (f : Nat) (args : List AV) (s : St) : Le (X42 f args s) (callω T1 (fun _ => .dead) X0 f args s) := by
  unfold X42
  cases h1 : Nat.beq f 42 with
  | true =>
    have := Nat.eq_of_beq_eq_true h1
    subst this
    simp only [cond_true]
    cases hb : AV.sameL args [twL] && okUp s.up && isNone s.ro with
    | false => exact .inl rfl
    | true =>
      simp only [Bool.and_eq_true] at hb
      have h2 := (AV.sameL_eq _ _).1 hb.1.1
      subst h2
      exact .inr (r42_ω hb.1.2 hb.2).symm
  | false =>
    simp only [cond_false]
    cases h2 : Nat.beq f 45 with
    | false => exact .inl rfl
    | true =>
      have := Nat.eq_of_beq_eq_true h2
      subst this
      simp only [cond_true]
      cases h3 : lookE args s.own ents with
      | none => exact .inl rfl
      | some e =>
        obtain ⟨hm, rfl, ho⟩ := lookE_ok h3
        obtain ⟨own, up, ro⟩ := s
        simp only at ho
        subst ho
        simp only
        split
        · exact .inr (ents_ok e hm _).symm
        · exact .inl rfl
theorem r35_0 (o : List AObj) : call Force.two (dropFn [42, 45] T1) (fun _ => .dead) X42 1000 35 [twL, twRel [2, 5]] { own := o, up := [[]], ro := [] } = .ok (.tup [tp0.enc, sl1 [102, 105, 108] .any, .int .i64 0]) { own := o, up := [[]], ro := [] } := by kernel_rfl
theorem r35_1 (o : List AObj) : call Force.two (dropFn [42, 45] T1) (fun _ => .dead) X42 1000 35 [twL, twRel [2, 7]] { own := o, up := [[]], ro := [] } = .ok (.tup [tp1.enc, sl1 [102, 105, 108] .any, .int .i64 0]) { own := o, up := [[]], ro := [] } := by kernel_rfl
theorem f35_0 (o : List AObj) : callω T1 (fun _ => .dead) X0 35 [twL, twRel [2, 5]] { own := o, up := [[]], ro := [] } = .ok (.tup [tp0.enc, sl1 [102, 105, 108] .any, .int .i64 0]) { own := o, up := [[]], ro := [] } := by
  have := r35_0 o
  rw [Force.two_eq] at this
  exact callω_sub (dropFn_some _ _) (fun f args s _ => x42_ok f args s) (fun h => by cases h) this
theorem f35_1 (o : List AObj) : callω T1 (fun _ => .dead) X0 35 [twL, twRel [2, 7]] { own := o, up := [[]], ro := [] } = .ok (.tup [tp1.enc, sl1 [102, 105, 108] .any, .int .i64 0]) { own := o, up := [[]], ro := [] } := by
  have := r35_1 o
  rw [Force.two_eq] at this
  exact callω_sub (dropFn_some _ _) (fun f args s _ => x42_ok f args s) (fun h => by cases h) this
end Go.AbZ
