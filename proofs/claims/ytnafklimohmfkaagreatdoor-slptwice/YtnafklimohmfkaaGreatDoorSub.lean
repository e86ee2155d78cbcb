/- A table in which some functions are answered from outside: what it answers is what the whole table answers. -/
import Derived.Test.YtnafklimohmfkaaGreatDoorCall
namespace Go.Ab
set_option linter.unusedSimpArgs false
theorem loop_mix (m : Nat) : LoopLim (fun i st keep fr s k => if i = 0 then loopIter st keep m fr s k else loopω st keep fr s k) loopω := fun st su keep fr s k l h1 h2 h3 h4 => by
  refine ⟨fun n => ?_, fun hb => ?_⟩
  · simp only
    split
    · rename_i hn
      by_cases hf : loopIter (st n) keep m fr s (k n) = .fail
      · exact .inl hf
      · exact .inr (loopω_of h2 hf (((loopIter_lim h3 h4 keep m fr s).1 n).eq rfl hf)).symm
    · exact (loopω_lim st su keep fr s k l h1 h2 h3 h4).1 n
  · obtain ⟨N, hN⟩ := (loopω_lim st su keep fr s k l h1 h2 h3 h4).2 hb
    exact ⟨max N 1, fun n hn => by simp only [show n ≠ 0 by omega, ↓reduceIte]; exact hN n (by omega)⟩
theorem sub_call {T T' : Nat → Option AFn} {G : Nat → AV} {X X' : Nat → List AV → St → Res} (hT : ∀ f fn, T' f = some fn → T f = some fn) (hX : ∀ f args s, T' f = none → Le (X' f args s) (callω T G X f args s)) :
    ∀ (n f : Nat) (args : List AV) (s : St), Le (call .not T' G X' n f args s) (callω T G X f args s)
  | 0, f, args, s => .inl rfl
  | n + 1, f, args, s => by
    cases h : T' f with
    | none =>
      have := hX f args s h
      rw [call_body]
      unfold body
      rw [h]
      exact this
    | some fn =>
      have hb := body_lim (T := T) (G := G) (X := X) (c := fun i => if i = 0 then call .not T' G X' n else callω T G X) (cu := callω T G X) (fun f args s => ⟨fun i => by
          simp only
          split
          · exact sub_call hT hX n f args s
          · exact .refl _, fun _ => ⟨1, fun i hi => by simp [show i ≠ 0 by omega]⟩⟩) (loop_mix n) (fun i => by
            by_cases hi : i = 0
            · simp only [hi, ↓reduceIte]; exact loopIter_const _
            · simp only [hi, ↓reduceIte]; exact loopω_lim) loopω_lim f args s
      have h0 := hb.1 0
      simp only [↓reduceIte] at h0
      rw [callω_body, call_body]
      have e : body T' G X' (call .not T' G X' n) (fun st keep fr s k => loopIter st keep n fr s k) f args s = body T G X (call .not T' G X' n) (fun st keep fr s k => loopIter st keep n fr s k) f args s := by
        unfold body
        rw [h, hT f fn h]
      rw [e]
      exact h0
theorem callω_sub {T T' : Nat → Option AFn} {G : Nat → AV} {X X' : Nat → List AV → St → Res} (hT : ∀ f fn, T' f = some fn → T f = some fn) (hX : ∀ f args s, T' f = none → Le (X' f args s) (callω T G X f args s)) {n f : Nat} {args : List AV} {s : St} {r : Res} (hr : r ≠ .fail) (e : call .not T' G X' n f args s = r) : callω T G X f args s = r :=
  (sub_call hT hX n f args s).eq e hr
/-- The values are reckoned out, the states are not. -/
def Force.half : Force := { v0 := force0, v1 := force1, l := forceL, s := fun s k => k s }
theorem Force.half_eq : Force.half = Force.not := by
  unfold Force.half Force.not
  congr <;> funext v k
  · exact force0_eq v k
  · exact force1_eq v k
  · exact forceL_eq v k
/-- All frames but the last two are reckoned out. -/
def forceF : List (List AObj) → (List (List AObj) → Res) → Res
  | x :: y :: z :: r, k => forceObjs x fun x => forceF (y :: z :: r) fun l => k (x :: l)
  | l, k => k l
theorem forceF_eq : ∀ (l : List (List AObj)) (k : List (List AObj) → Res), forceF l k = k l
  | [], _ => rfl
  | [_], _ => rfl
  | [_, _], _ => rfl
  | x :: y :: z :: r, k => by simp [forceF, forceObjs_eq, forceF_eq (y :: z :: r)]
def forceSt2 (s : St) (k : St → Res) : Res := forceF (s.own :: s.up) fun l =>
  match l with
  | own :: up => k { own, up, ro := s.ro }
  | [] => k s
theorem forceSt2_eq (s : St) (k : St → Res) : forceSt2 s k = k s := by simp [forceSt2, forceF_eq]
def Force.two : Force := { v0 := force0, v1 := force1, l := forceL, s := forceSt2 }
theorem Force.two_eq : Force.two = Force.not := by
  unfold Force.two Force.not
  congr <;> funext v k
  · exact force0_eq v k
  · exact force1_eq v k
  · exact forceL_eq v k
  · exact forceSt2_eq v k
/-- A table without some functions. -/
def dropFn (l : List Nat) (T : Nat → Option AFn) (f : Nat) : Option AFn := bif l.any (Nat.beq f) then none else T f
theorem dropFn_some (l : List Nat) (T : Nat → Option AFn) (f : Nat) (fn : AFn) (h : dropFn l T f = some fn) : T f = some fn := by
  unfold dropFn at h
  cases e : l.any (Nat.beq f) with
  | true => rw [e] at h; cases h
  | false => rw [e] at h; exact h
end Go.Ab
