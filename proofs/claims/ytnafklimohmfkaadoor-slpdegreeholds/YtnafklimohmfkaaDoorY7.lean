/- The contracts of some functions of the program, as the abstract evaluator runs them: for every argument that their texts name. -/
import Derived.Test.YtnafklimohmfkaaDoorY1
section
namespace Go.AbY
open Go.Ab
variable (G : Nat → AV) (X : Nat → List AV → St → Res)
set_option linter.unusedSimpArgs false
set_option linter.unusedVariables false
/-- A later state of the same frame: what was there is as it was. -/
structure Kept (s S : St) : Prop where
  up : S.up = s.up
  ro : S.ro = s.ro
  own : ∀ (i : Nat) (o : AObj), s.own[i]? = some o → S.own[i]? = some o
theorem Kept.refl (s : St) : Kept s s := ⟨rfl, rfl, fun _ _ h => h⟩
theorem Kept.trans {s s₁ s₂ : St} (h : Kept s s₁) (k : Kept s₁ s₂) : Kept s s₂ := ⟨k.up.trans h.up, k.ro.trans h.ro, fun i o e => k.own i o (h.own i o e)⟩
theorem Kept.depth {s S : St} (h : Kept s S) : S.depth = s.depth := by simp [St.depth, h.up, h.ro]
theorem Kept.new {s S : St} (h : Kept s S) (o : AObj) : Kept s (S.new o) := ⟨h.up, h.ro, fun i x e => own_new (h.own i x e) o⟩
theorem Kept.set {s S : St} (h : Kept s S) (j : Nat) (o : AObj) (hj : s.own.length ≤ j) : Kept s { own := S.own.set j o, up := S.up, ro := S.ro } := ⟨h.up, h.ro, fun i x e => by
  have hi := (List.getElem?_eq_some_iff.1 e).1
  simp -implicitDefEqProofs only
  rw [List.getElem?_set_ne (by omega)]
  exact h.own i x e⟩
theorem Kept.child {s S S' : St} (h : Kept S S') (hS : Child s S) : Child s S' := ⟨h.up.trans hS.up, h.ro.trans hS.ro⟩
/-- Five functions that are a ring, and leave nothing behind. -/
structure RingP (R : Ops) (fc fa fs fm fr : AV) : Prop where
  c : ∀ n S (k : K1), (PP T1 G X).callF S k fc [I n] = k (I (R.c n)) S
  add : ∀ x y S (k : K1), (PP T1 G X).callF S k fa [I x, I y] = k (I (R.add x y)) S
  sub : ∀ x y S (k : K1), (PP T1 G X).callF S k fs [I x, I y] = k (I (R.sub x y)) S
  mul : ∀ x y S (k : K1), (PP T1 G X).callF S k fm [I x, I y] = k (I (R.mul x y)) S
  root : ∀ x y S (k : K1), (PP T1 G X).callF S k fr [I x, I y] = k (I (R.root x y)) S
/-- A slice of numbers that is read. -/
structure InP (s : St) (v : AV) (inp : List Int) : Prop where
  len : ∀ S (k : K1), Kept s S → (PP T1 G X).len S k false v = k (I inp.length) S
  get : ∀ (a : Int) S (k : K1), Kept s S → 0 ≤ a → a < inp.length → (PP T1 G X).idx S (fun v S => (PP T1 G X).load S k none v) 1 v (.int .i64 a) = k (I (inp.getD a.toNat 0)) S
theorem inP_own (s : St) (j : Nat) (inp : List Int) (n : Nat) (hn : n = inp.length) (h : s.own[j]? = some (.cells (inp.map I))) : InP G X s (.msl (.g s.depth j) 0 n n 1) inp where
  len := fun S k _ => by subst hn; rfl
  get := fun a S k hS h0 h1 => by
    subst hn
    obtain ⟨b, rfl⟩ := Int.eq_ofNat_of_zero_le h0
    have hb : b < inp.length := by omega
    rw [z_idx_msl (.g s.depth j) 0 inp.length inp.length 1 .i64 b hb, zz_load]
    have hg : S.get (.g s.depth j) = some (.cells (inp.map I)) := by
      simp -implicitDefEqProofs only [St.get, hS.depth]
      rw [if_pos trivial]
      exact hS.own _ _ h
    simp -implicitDefEqProofs only [loadOp, hg, loadV]
    have e : (inp.map I).drop (0 + b * 1) = I inp[b] :: (inp.map I).drop (b + 1) := by
      rw [Nat.zero_add, Nat.mul_one, List.drop_eq_getElem_cons (by simpa using hb)]
      simp
    rw [e]
    have e2 : inp.getD (Int.toNat (b : Int)) 0 = inp[b] := by simp [List.getD, hb]
    rw [e2]
    rfl
theorem fin_k (S : St) (j a b : Nat) : (PP T1 G X).fin true [some (.msl (.l j) 0 a b 1), some (I 0)] S = .ok (.tup [.msl (.g S.depth j) 0 a b 1, I 0]) S := rfl
section
variable {R : Ops} {fc fa fs fm fr : AV} (hR : RingP G X R fc fa fs fm fr)
include hR
theorem f9_j4_ok (s : St) (inp : List Int) (vi : AV) (hI : InP G X s vi inp) (v29 v30 : AV) (ins : List AV) (gs : Gr) (x : Ins) (out : List Int) (nr j n : Nat) (S : St) (hS : Kept s S) (hg : S.own[j]? = some (.cells (full out n))) (Res0 : Res)
    (hnr : nr < 9000) (hv : v29 = .sl 3 ins gs) (hx : ins[out.length]? = some x.enc) (hok : okIns x out.length inp.length = true)
    (hk : ∀ S', Kept s S' → S'.own = (S.new (.cells [I x.op, I x.a, I x.b])).own → f9_j5 (PP T1 G X) vi (.vptr [fc, fa, fs, fm, fr]) (.msl (.l j) 0 out.length n 1) (I (nextR x nr : Nat)) (I (valR R inp out nr x)) v29 v30 (.int .i64 (out.length : Int)) S' = Res0) :
    f9_j4 (PP T1 G X) vi (.vptr [fc, fa, fs, fm, fr]) (.msl (.l j) 0 out.length n 1) (.int .i64 (nr : Int)) v29 v30 (.int .i64 (out.length : Int)) S = Res0 := by
  subst hv
  rw [f9_j4_eq _ (PP_ok _ _ _)]
  have hg' := own_new hg (.cells [I x.op, I x.a, I x.b])
  have hS' := hS.new (.cells [I x.op, I x.a, I x.b])
  have hop := okIns_op hok
  unfold okIns at hok
  by_cases h1 : x.op = 1
  · have q1 := eq_true h1
    simp -implicitDefEqProofs only [q1, ↓reduceIte, decide_eq_true_eq] at hok
    have hk0 := hk (S.new (.cells [I x.op, I x.a, I x.b])) hS' rfl
    have e6 : ¬ x.op = 6 := by omega
    simp -implicitDefEqProofs only [nextR, eq_false e6, valR, q1, if_true, if_false] at hk0
    simp -implicitDefEqProofs only [↓z_ret, ↓z_val, ↓z_pick, ↓z_cond, ↓z_boxRo_agg, ↓z_boxRo_int, ↓z_boxRo_bool, ↓z_boxRo_str, ↓z_boxRo_sl, ↓z_boxRo_fn, ↓z_boxRo_vptr, ↓z_boxRo_ref, ↓z_len_sl, ↓z_len_msl, ↓z_len_str, ↓z_load1, ↓z_fa, ↓z_fa_ref, ↓z_callF, ↓z_andK, ↓z_orK, ↓z_and1, ↓z_and2, ↓z_and3, ↓z_and4, ↓z_and5, ↓z_and6, ↓z_and7, ↓z_and8, ↓z_and9, ↓z_and10, ↓z_and11, ↓z_and12, ↓z_or1, ↓z_or2, ↓z_or3, ↓z_or4, ↓z_or5, ↓z_or6, ↓z_or7, ↓z_or8, ↓z_or9, ↓z_or10, ↓z_or11, ↓z_or12, ↓z_add, ↓z_sub, ↓z_mul, ↓z_eql, ↓z_neq, ↓z_lss, ↓z_leq, ↓z_gtr, ↓z_geq, ↓z_not, ↓z_neg, ↓z_fin_int, ↓z_fin_bool, ↓z_fin_str, ↓z_ent_int, ↓z_ent_bool, ↓z_ent_str, ↓z_stn, ↓z_ldnn, ↓z_ldn0, ↓z_ldn1, ↓z_ldn2, ↓z_ldn3, ↓z_ldn4, ↓z_ldn5, ↓z_ldn6, ↓z_ldn7, ↓z_ldn8, List.drop_zero, List.drop_succ_cons, List.cons_append, List.nil_append, decide_eq_true_eq, decide_eq_false_iff_not, ite_not, ↓reduceIte, pub_agg, pub_int, pub_bool, pub_str, pub_fn, pub_vptr, pub_nilp, Nat.zero_add, List.length_cons, List.length_nil, Nat.reduceAdd, List.all_cons, List.all_nil, isCell_int, isCell_bool, isCell_str, isCell_sl, Bool.and_self, ↓z_loadn, Nat.reduceLeDiff, Nat.le_refl, List.take_succ_cons, List.take_zero, z_idx _ _ _ _ _ _ hx, Ins.enc, Ins.cs, AV.cells, q1, decide_true, hI.get _ _ _ hS' hok.1 hok.2.1]
    exact hk0
  have q1 := eq_false h1
  by_cases h2 : x.op = 2
  · have q2 := eq_true h2
    have hk0 := hk (S.new (.cells [I x.op, I x.a, I x.b])) hS' rfl
    have e6 : ¬ x.op = 6 := by omega
    simp -implicitDefEqProofs only [nextR, eq_false e6, valR, q1, q2, if_true, if_false] at hk0
    simp -implicitDefEqProofs only [↓z_ret, ↓z_val, ↓z_pick, ↓z_cond, ↓z_boxRo_agg, ↓z_boxRo_int, ↓z_boxRo_bool, ↓z_boxRo_str, ↓z_boxRo_sl, ↓z_boxRo_fn, ↓z_boxRo_vptr, ↓z_boxRo_ref, ↓z_len_sl, ↓z_len_msl, ↓z_len_str, ↓z_load1, ↓z_fa, ↓z_fa_ref, ↓z_callF, ↓z_andK, ↓z_orK, ↓z_and1, ↓z_and2, ↓z_and3, ↓z_and4, ↓z_and5, ↓z_and6, ↓z_and7, ↓z_and8, ↓z_and9, ↓z_and10, ↓z_and11, ↓z_and12, ↓z_or1, ↓z_or2, ↓z_or3, ↓z_or4, ↓z_or5, ↓z_or6, ↓z_or7, ↓z_or8, ↓z_or9, ↓z_or10, ↓z_or11, ↓z_or12, ↓z_add, ↓z_sub, ↓z_mul, ↓z_eql, ↓z_neq, ↓z_lss, ↓z_leq, ↓z_gtr, ↓z_geq, ↓z_not, ↓z_neg, ↓z_fin_int, ↓z_fin_bool, ↓z_fin_str, ↓z_ent_int, ↓z_ent_bool, ↓z_ent_str, ↓z_stn, ↓z_ldnn, ↓z_ldn0, ↓z_ldn1, ↓z_ldn2, ↓z_ldn3, ↓z_ldn4, ↓z_ldn5, ↓z_ldn6, ↓z_ldn7, ↓z_ldn8, List.drop_zero, List.drop_succ_cons, List.cons_append, List.nil_append, decide_eq_true_eq, decide_eq_false_iff_not, ite_not, ↓reduceIte, pub_agg, pub_int, pub_bool, pub_str, pub_fn, pub_vptr, pub_nilp, Nat.zero_add, List.length_cons, List.length_nil, Nat.reduceAdd, List.all_cons, List.all_nil, isCell_int, isCell_bool, isCell_str, isCell_sl, Bool.and_self, ↓z_loadn, Nat.reduceLeDiff, Nat.le_refl, List.take_succ_cons, List.take_zero, z_idx _ _ _ _ _ _ hx, Ins.enc, Ins.cs, AV.cells, q1, q2, decide_true, decide_false, Bool.false_eq_true, hR.c]
    exact hk0
  have q2 := eq_false h2
  by_cases h3 : x.op = 3
  · have q3 := eq_true h3
    have h3' : x.op = 3 ∨ x.op = 4 ∨ x.op = 5 := by omega
    simp -implicitDefEqProofs only [q1, q2, eq_true h3', ↓reduceIte, decide_eq_true_eq] at hok
    have la := fun k => ld_own G X out j n x.a.toNat (by omega) k _ hg'
    have lb := fun k => ld_own G X out j n x.b.toNat (by omega) k _ hg'
    simp -implicitDefEqProofs only [Nat.zero_add] at la lb
    have hk0 := hk (S.new (.cells [I x.op, I x.a, I x.b])) hS' rfl
    have e6 : ¬ x.op = 6 := by omega
    simp -implicitDefEqProofs only [nextR, eq_false e6, valR, q1, q2, q3, if_true, if_false] at hk0
    simp -implicitDefEqProofs only [↓z_ret, ↓z_val, ↓z_pick, ↓z_cond, ↓z_boxRo_agg, ↓z_boxRo_int, ↓z_boxRo_bool, ↓z_boxRo_str, ↓z_boxRo_sl, ↓z_boxRo_fn, ↓z_boxRo_vptr, ↓z_boxRo_ref, ↓z_len_sl, ↓z_len_msl, ↓z_len_str, ↓z_load1, ↓z_fa, ↓z_fa_ref, ↓z_callF, ↓z_andK, ↓z_orK, ↓z_and1, ↓z_and2, ↓z_and3, ↓z_and4, ↓z_and5, ↓z_and6, ↓z_and7, ↓z_and8, ↓z_and9, ↓z_and10, ↓z_and11, ↓z_and12, ↓z_or1, ↓z_or2, ↓z_or3, ↓z_or4, ↓z_or5, ↓z_or6, ↓z_or7, ↓z_or8, ↓z_or9, ↓z_or10, ↓z_or11, ↓z_or12, ↓z_add, ↓z_sub, ↓z_mul, ↓z_eql, ↓z_neq, ↓z_lss, ↓z_leq, ↓z_gtr, ↓z_geq, ↓z_not, ↓z_neg, ↓z_fin_int, ↓z_fin_bool, ↓z_fin_str, ↓z_ent_int, ↓z_ent_bool, ↓z_ent_str, ↓z_stn, ↓z_ldnn, ↓z_ldn0, ↓z_ldn1, ↓z_ldn2, ↓z_ldn3, ↓z_ldn4, ↓z_ldn5, ↓z_ldn6, ↓z_ldn7, ↓z_ldn8, List.drop_zero, List.drop_succ_cons, List.cons_append, List.nil_append, decide_eq_true_eq, decide_eq_false_iff_not, ite_not, ↓reduceIte, pub_agg, pub_int, pub_bool, pub_str, pub_fn, pub_vptr, pub_nilp, Nat.zero_add, List.length_cons, List.length_nil, Nat.reduceAdd, List.all_cons, List.all_nil, isCell_int, isCell_bool, isCell_str, isCell_sl, Bool.and_self, ↓z_loadn, Nat.reduceLeDiff, Nat.le_refl, List.take_succ_cons, List.take_zero, z_idx _ _ _ _ _ _ hx, Ins.enc, Ins.cs, AV.cells, q1, q2, q3, decide_true, decide_false, Bool.false_eq_true, idx_own G X _ _ _ _ hok.1.1 hok.1.2, idx_own G X _ _ _ _ hok.2.1 hok.2.2, ↓la, ↓lb, hR.add]
    exact hk0
  have q3 := eq_false h3
  by_cases h4 : x.op = 4
  · have q4 := eq_true h4
    have h3' : x.op = 3 ∨ x.op = 4 ∨ x.op = 5 := by omega
    simp -implicitDefEqProofs only [q1, q2, eq_true h3', ↓reduceIte, decide_eq_true_eq] at hok
    have la := fun k => ld_own G X out j n x.a.toNat (by omega) k _ hg'
    have lb := fun k => ld_own G X out j n x.b.toNat (by omega) k _ hg'
    simp -implicitDefEqProofs only [Nat.zero_add] at la lb
    have hk0 := hk (S.new (.cells [I x.op, I x.a, I x.b])) hS' rfl
    have e6 : ¬ x.op = 6 := by omega
    simp -implicitDefEqProofs only [nextR, eq_false e6, valR, q1, q2, q3, q4, if_true, if_false] at hk0
    simp -implicitDefEqProofs only [↓z_ret, ↓z_val, ↓z_pick, ↓z_cond, ↓z_boxRo_agg, ↓z_boxRo_int, ↓z_boxRo_bool, ↓z_boxRo_str, ↓z_boxRo_sl, ↓z_boxRo_fn, ↓z_boxRo_vptr, ↓z_boxRo_ref, ↓z_len_sl, ↓z_len_msl, ↓z_len_str, ↓z_load1, ↓z_fa, ↓z_fa_ref, ↓z_callF, ↓z_andK, ↓z_orK, ↓z_and1, ↓z_and2, ↓z_and3, ↓z_and4, ↓z_and5, ↓z_and6, ↓z_and7, ↓z_and8, ↓z_and9, ↓z_and10, ↓z_and11, ↓z_and12, ↓z_or1, ↓z_or2, ↓z_or3, ↓z_or4, ↓z_or5, ↓z_or6, ↓z_or7, ↓z_or8, ↓z_or9, ↓z_or10, ↓z_or11, ↓z_or12, ↓z_add, ↓z_sub, ↓z_mul, ↓z_eql, ↓z_neq, ↓z_lss, ↓z_leq, ↓z_gtr, ↓z_geq, ↓z_not, ↓z_neg, ↓z_fin_int, ↓z_fin_bool, ↓z_fin_str, ↓z_ent_int, ↓z_ent_bool, ↓z_ent_str, ↓z_stn, ↓z_ldnn, ↓z_ldn0, ↓z_ldn1, ↓z_ldn2, ↓z_ldn3, ↓z_ldn4, ↓z_ldn5, ↓z_ldn6, ↓z_ldn7, ↓z_ldn8, List.drop_zero, List.drop_succ_cons, List.cons_append, List.nil_append, decide_eq_true_eq, decide_eq_false_iff_not, ite_not, ↓reduceIte, pub_agg, pub_int, pub_bool, pub_str, pub_fn, pub_vptr, pub_nilp, Nat.zero_add, List.length_cons, List.length_nil, Nat.reduceAdd, List.all_cons, List.all_nil, isCell_int, isCell_bool, isCell_str, isCell_sl, Bool.and_self, ↓z_loadn, Nat.reduceLeDiff, Nat.le_refl, List.take_succ_cons, List.take_zero, z_idx _ _ _ _ _ _ hx, Ins.enc, Ins.cs, AV.cells, q1, q2, q3, q4, decide_true, decide_false, Bool.false_eq_true, idx_own G X _ _ _ _ hok.1.1 hok.1.2, idx_own G X _ _ _ _ hok.2.1 hok.2.2, ↓la, ↓lb, hR.sub]
    exact hk0
  have q4 := eq_false h4
  by_cases h5 : x.op = 5
  · have q5 := eq_true h5
    have h3' : x.op = 3 ∨ x.op = 4 ∨ x.op = 5 := by omega
    simp -implicitDefEqProofs only [q1, q2, eq_true h3', ↓reduceIte, decide_eq_true_eq] at hok
    have la := fun k => ld_own G X out j n x.a.toNat (by omega) k _ hg'
    have lb := fun k => ld_own G X out j n x.b.toNat (by omega) k _ hg'
    simp -implicitDefEqProofs only [Nat.zero_add] at la lb
    have hk0 := hk (S.new (.cells [I x.op, I x.a, I x.b])) hS' rfl
    have e6 : ¬ x.op = 6 := by omega
    simp -implicitDefEqProofs only [nextR, eq_false e6, valR, q1, q2, q3, q4, q5, if_true, if_false] at hk0
    simp -implicitDefEqProofs only [↓z_ret, ↓z_val, ↓z_pick, ↓z_cond, ↓z_boxRo_agg, ↓z_boxRo_int, ↓z_boxRo_bool, ↓z_boxRo_str, ↓z_boxRo_sl, ↓z_boxRo_fn, ↓z_boxRo_vptr, ↓z_boxRo_ref, ↓z_len_sl, ↓z_len_msl, ↓z_len_str, ↓z_load1, ↓z_fa, ↓z_fa_ref, ↓z_callF, ↓z_andK, ↓z_orK, ↓z_and1, ↓z_and2, ↓z_and3, ↓z_and4, ↓z_and5, ↓z_and6, ↓z_and7, ↓z_and8, ↓z_and9, ↓z_and10, ↓z_and11, ↓z_and12, ↓z_or1, ↓z_or2, ↓z_or3, ↓z_or4, ↓z_or5, ↓z_or6, ↓z_or7, ↓z_or8, ↓z_or9, ↓z_or10, ↓z_or11, ↓z_or12, ↓z_add, ↓z_sub, ↓z_mul, ↓z_eql, ↓z_neq, ↓z_lss, ↓z_leq, ↓z_gtr, ↓z_geq, ↓z_not, ↓z_neg, ↓z_fin_int, ↓z_fin_bool, ↓z_fin_str, ↓z_ent_int, ↓z_ent_bool, ↓z_ent_str, ↓z_stn, ↓z_ldnn, ↓z_ldn0, ↓z_ldn1, ↓z_ldn2, ↓z_ldn3, ↓z_ldn4, ↓z_ldn5, ↓z_ldn6, ↓z_ldn7, ↓z_ldn8, List.drop_zero, List.drop_succ_cons, List.cons_append, List.nil_append, decide_eq_true_eq, decide_eq_false_iff_not, ite_not, ↓reduceIte, pub_agg, pub_int, pub_bool, pub_str, pub_fn, pub_vptr, pub_nilp, Nat.zero_add, List.length_cons, List.length_nil, Nat.reduceAdd, List.all_cons, List.all_nil, isCell_int, isCell_bool, isCell_str, isCell_sl, Bool.and_self, ↓z_loadn, Nat.reduceLeDiff, Nat.le_refl, List.take_succ_cons, List.take_zero, z_idx _ _ _ _ _ _ hx, Ins.enc, Ins.cs, AV.cells, q1, q2, q3, q4, q5, decide_true, decide_false, Bool.false_eq_true, idx_own G X _ _ _ _ hok.1.1 hok.1.2, idx_own G X _ _ _ _ hok.2.1 hok.2.2, ↓la, ↓lb, hR.mul]
    exact hk0
  have q5 := eq_false h5
  have h6 : x.op = 6 := by omega
  have q6 := eq_true h6
  have h3' : ¬ (x.op = 3 ∨ x.op = 4 ∨ x.op = 5) := by omega
  simp -implicitDefEqProofs only [q1, q2, eq_false h3', q6, ↓reduceIte, decide_eq_true_eq] at hok
  have la := fun k => ld_own G X out j n x.a.toNat (by omega) k _ hg'
  simp -implicitDefEqProofs only [Nat.zero_add] at la
  have hk0 := hk (S.new (.cells [I x.op, I x.a, I x.b])) hS' rfl
  simp -implicitDefEqProofs only [nextR, valR, q1, q2, q3, q4, q5, q6, if_true, if_false] at hk0
  have hw : IntKind.wrap .i64 ((nr : Int) + 1) = ((nr + 1 : Nat) : Int) := wrap_succ nr (by omega)
  simp -implicitDefEqProofs only [↓z_ret, ↓z_val, ↓z_pick, ↓z_cond, ↓z_boxRo_agg, ↓z_boxRo_int, ↓z_boxRo_bool, ↓z_boxRo_str, ↓z_boxRo_sl, ↓z_boxRo_fn, ↓z_boxRo_vptr, ↓z_boxRo_ref, ↓z_len_sl, ↓z_len_msl, ↓z_len_str, ↓z_load1, ↓z_fa, ↓z_fa_ref, ↓z_callF, ↓z_andK, ↓z_orK, ↓z_and1, ↓z_and2, ↓z_and3, ↓z_and4, ↓z_and5, ↓z_and6, ↓z_and7, ↓z_and8, ↓z_and9, ↓z_and10, ↓z_and11, ↓z_and12, ↓z_or1, ↓z_or2, ↓z_or3, ↓z_or4, ↓z_or5, ↓z_or6, ↓z_or7, ↓z_or8, ↓z_or9, ↓z_or10, ↓z_or11, ↓z_or12, ↓z_add, ↓z_sub, ↓z_mul, ↓z_eql, ↓z_neq, ↓z_lss, ↓z_leq, ↓z_gtr, ↓z_geq, ↓z_not, ↓z_neg, ↓z_fin_int, ↓z_fin_bool, ↓z_fin_str, ↓z_ent_int, ↓z_ent_bool, ↓z_ent_str, ↓z_stn, ↓z_ldnn, ↓z_ldn0, ↓z_ldn1, ↓z_ldn2, ↓z_ldn3, ↓z_ldn4, ↓z_ldn5, ↓z_ldn6, ↓z_ldn7, ↓z_ldn8, List.drop_zero, List.drop_succ_cons, List.cons_append, List.nil_append, decide_eq_true_eq, decide_eq_false_iff_not, ite_not, ↓reduceIte, pub_agg, pub_int, pub_bool, pub_str, pub_fn, pub_vptr, pub_nilp, Nat.zero_add, List.length_cons, List.length_nil, Nat.reduceAdd, List.all_cons, List.all_nil, isCell_int, isCell_bool, isCell_str, isCell_sl, Bool.and_self, ↓z_loadn, Nat.reduceLeDiff, Nat.le_refl, List.take_succ_cons, List.take_zero, z_idx _ _ _ _ _ _ hx, Ins.enc, Ins.cs, AV.cells, q1, q2, q3, q4, q5, q6, decide_true, decide_false, Bool.false_eq_true, idx_own G X _ _ _ _ hok.1.1 hok.1.2, ↓la, hR.root, hw]
  exact hk0
theorem f9_l3_ok (s : St) (p : Prog) (inp : List Int) (vi : AV) (hI : InP G X s vi inp) (h8 : p.ins.length ≤ 8192) (hin : (inp.length : Int) = p.inputs) (j : Nat) (hj : s.own.length ≤ j) : ∀ (n i nr : Nat) (out : List Int), i + n = p.ins.length → out.length = i → nr ≤ i → okAll p.inputs (p.ins.drop i) i = true → ∀ (S : St), Kept s S → S.own[j]? = some (.cells (full out p.ins.length)) →
    ∃ S', f9_l3 (PP T1 G X) vi (.vptr [fc, fa, fs, fm, fr]) (.msl (.l j) 0 i p.ins.length 1) (.int .i64 (nr : Int)) (.sl 3 (p.ins.map Ins.enc) p.gi) (I p.ins.length) (.int .i64 (i : Int)) S
      = .ok (.tup [.msl (.g s.depth j) 0 p.ins.length p.ins.length 1, I 0]) S' ∧ Kept s S' ∧ S'.own[j]? = some (.cells ((runR R inp (p.ins.drop i) nr out).map I)) := by
  intro n
  induction n with
  | zero =>
    intro i nr out hi ho hnr ha S hS hg
    have h : ¬ ((i : Int) < (p.ins.length : Int)) := by omega
    rw [f9_l3_eq _ (PP_ok _ _ _)]
    have hio : out.length = p.ins.length := by omega
    rw [← hio, full_full] at hg
    simp -implicitDefEqProofs only [↓z_ret, ↓z_val, ↓z_pick, ↓z_cond, ↓z_boxRo_agg, ↓z_boxRo_int, ↓z_boxRo_bool, ↓z_boxRo_str, ↓z_boxRo_sl, ↓z_boxRo_fn, ↓z_boxRo_vptr, ↓z_boxRo_ref, ↓z_len_sl, ↓z_len_msl, ↓z_len_str, ↓z_load1, ↓z_fa, ↓z_fa_ref, ↓z_callF, ↓z_andK, ↓z_orK, ↓z_and1, ↓z_and2, ↓z_and3, ↓z_and4, ↓z_and5, ↓z_and6, ↓z_and7, ↓z_and8, ↓z_and9, ↓z_and10, ↓z_and11, ↓z_and12, ↓z_or1, ↓z_or2, ↓z_or3, ↓z_or4, ↓z_or5, ↓z_or6, ↓z_or7, ↓z_or8, ↓z_or9, ↓z_or10, ↓z_or11, ↓z_or12, ↓z_add, ↓z_sub, ↓z_mul, ↓z_eql, ↓z_neq, ↓z_lss, ↓z_leq, ↓z_gtr, ↓z_geq, ↓z_not, ↓z_neg, ↓z_fin_int, ↓z_fin_bool, ↓z_fin_str, ↓z_ent_int, ↓z_ent_bool, ↓z_ent_str, ↓z_stn, ↓z_ldnn, ↓z_ldn0, ↓z_ldn1, ↓z_ldn2, ↓z_ldn3, ↓z_ldn4, ↓z_ldn5, ↓z_ldn6, ↓z_ldn7, ↓z_ldn8, List.drop_zero, List.drop_succ_cons, List.cons_append, List.nil_append, decide_eq_true_eq, decide_eq_false_iff_not, ite_not, ↓reduceIte, pub_agg, pub_int, pub_bool, pub_str, pub_fn, pub_vptr, pub_nilp, Nat.zero_add, List.length_cons, List.length_nil, Nat.reduceAdd, List.all_cons, List.all_nil, isCell_int, isCell_bool, isCell_str, isCell_sl, Bool.and_self, ↓z_loadn, Nat.reduceLeDiff, Nat.le_refl, List.take_succ_cons, List.take_zero, eq_false h, decide_false, Bool.false_eq_true, f9_j7_eq _ (PP_ok _ _ _)]
    rw [List.drop_of_length_le (by omega), ← hio, ← ho, fin_k]
    exact ⟨S, by rw [hS.depth], hS, by simpa only [runR] using hg⟩
  | succ n ih =>
    intro i nr out hi ho hnr ha S hS hg
    have h : (i : Int) < (p.ins.length : Int) := by omega
    have hlt : i < p.ins.length := by omega
    obtain ⟨x, hx⟩ : ∃ x, p.ins[i]? = some x := ⟨_, List.getElem?_eq_getElem hlt⟩
    have ea : (p.ins.map Ins.enc)[i]? = some x.enc := by simp [hx]
    have hx' := (List.getElem?_eq_some_iff.1 hx).2
    rw [List.drop_eq_getElem_cons hlt, hx'] at ha ⊢
    simp -implicitDefEqProofs only [okAll, Bool.and_eq_true] at ha
    rw [f9_l3_eq _ (PP_ok _ _ _)]
    simp -implicitDefEqProofs only [↓z_ret, ↓z_val, ↓z_pick, ↓z_cond, ↓z_boxRo_agg, ↓z_boxRo_int, ↓z_boxRo_bool, ↓z_boxRo_str, ↓z_boxRo_sl, ↓z_boxRo_fn, ↓z_boxRo_vptr, ↓z_boxRo_ref, ↓z_len_sl, ↓z_len_msl, ↓z_len_str, ↓z_load1, ↓z_fa, ↓z_fa_ref, ↓z_callF, ↓z_andK, ↓z_orK, ↓z_and1, ↓z_and2, ↓z_and3, ↓z_and4, ↓z_and5, ↓z_and6, ↓z_and7, ↓z_and8, ↓z_and9, ↓z_and10, ↓z_and11, ↓z_and12, ↓z_or1, ↓z_or2, ↓z_or3, ↓z_or4, ↓z_or5, ↓z_or6, ↓z_or7, ↓z_or8, ↓z_or9, ↓z_or10, ↓z_or11, ↓z_or12, ↓z_add, ↓z_sub, ↓z_mul, ↓z_eql, ↓z_neq, ↓z_lss, ↓z_leq, ↓z_gtr, ↓z_geq, ↓z_not, ↓z_neg, ↓z_fin_int, ↓z_fin_bool, ↓z_fin_str, ↓z_ent_int, ↓z_ent_bool, ↓z_ent_str, ↓z_stn, ↓z_ldnn, ↓z_ldn0, ↓z_ldn1, ↓z_ldn2, ↓z_ldn3, ↓z_ldn4, ↓z_ldn5, ↓z_ldn6, ↓z_ldn7, ↓z_ldn8, List.drop_zero, List.drop_succ_cons, List.cons_append, List.nil_append, decide_eq_true_eq, decide_eq_false_iff_not, ite_not, ↓reduceIte, pub_agg, pub_int, pub_bool, pub_str, pub_fn, pub_vptr, pub_nilp, Nat.zero_add, List.length_cons, List.length_nil, Nat.reduceAdd, List.all_cons, List.all_nil, isCell_int, isCell_bool, isCell_str, isCell_sl, Bool.and_self, ↓z_loadn, Nat.reduceLeDiff, Nat.le_refl, List.take_succ_cons, List.take_zero, eq_true h, decide_true, if_true]
    subst ho
    have key : ∀ S', Kept s S' → S'.own = (S.new (.cells [I x.op, I x.a, I x.b])).own → ∃ S'', f9_j5 (PP T1 G X) vi (.vptr [fc, fa, fs, fm, fr]) (.msl (.l j) 0 out.length p.ins.length 1) (I (nextR x nr : Nat)) (I (valR R inp out nr x)) (.sl 3 (p.ins.map Ins.enc) p.gi) (I p.ins.length) (.int .i64 (out.length : Int)) S'
        = .ok (.tup [.msl (.g s.depth j) 0 p.ins.length p.ins.length 1, I 0]) S'' ∧ Kept s S'' ∧ S''.own[j]? = some (.cells ((runR R inp (x :: p.ins.drop (out.length + 1)) nr out).map I)) := fun S' hS' hown => by
      have hw : IntKind.wrap .i64 ((out.length : Int) + 1) = ((out.length + 1 : Nat) : Int) := wrap_succ out.length (by omega)
      have hg2 : S'.own[j]? = some (.cells (full out p.ins.length)) := by rw [hown]; exact own_new hg _
      rw [f9_j5_eq _ (PP_ok _ _ _)]
      simp -implicitDefEqProofs only [↓z_ret, ↓z_val, ↓z_pick, ↓z_cond, ↓z_boxRo_agg, ↓z_boxRo_int, ↓z_boxRo_bool, ↓z_boxRo_str, ↓z_boxRo_sl, ↓z_boxRo_fn, ↓z_boxRo_vptr, ↓z_boxRo_ref, ↓z_len_sl, ↓z_len_msl, ↓z_len_str, ↓z_load1, ↓z_fa, ↓z_fa_ref, ↓z_callF, ↓z_andK, ↓z_orK, ↓z_and1, ↓z_and2, ↓z_and3, ↓z_and4, ↓z_and5, ↓z_and6, ↓z_and7, ↓z_and8, ↓z_and9, ↓z_and10, ↓z_and11, ↓z_and12, ↓z_or1, ↓z_or2, ↓z_or3, ↓z_or4, ↓z_or5, ↓z_or6, ↓z_or7, ↓z_or8, ↓z_or9, ↓z_or10, ↓z_or11, ↓z_or12, ↓z_add, ↓z_sub, ↓z_mul, ↓z_eql, ↓z_neq, ↓z_lss, ↓z_leq, ↓z_gtr, ↓z_geq, ↓z_not, ↓z_neg, ↓z_fin_int, ↓z_fin_bool, ↓z_fin_str, ↓z_ent_int, ↓z_ent_bool, ↓z_ent_str, ↓z_stn, ↓z_ldnn, ↓z_ldn0, ↓z_ldn1, ↓z_ldn2, ↓z_ldn3, ↓z_ldn4, ↓z_ldn5, ↓z_ldn6, ↓z_ldn7, ↓z_ldn8, List.drop_zero, List.drop_succ_cons, List.cons_append, List.nil_append, decide_eq_true_eq, decide_eq_false_iff_not, ite_not, ↓reduceIte, pub_agg, pub_int, pub_bool, pub_str, pub_fn, pub_vptr, pub_nilp, Nat.zero_add, List.length_cons, List.length_nil, Nat.reduceAdd, List.all_cons, List.all_nil, isCell_int, isCell_bool, isCell_str, isCell_sl, Bool.and_self, ↓z_loadn, Nat.reduceLeDiff, Nat.le_refl, List.take_succ_cons, List.take_zero, z_bs_int]
      rw [z_append_msl hg2 hlt (full_len _ _ (by omega)) rfl rfl, f9_j6_eq _ (PP_ok _ _ _)]
      simp -implicitDefEqProofs only [↓z_ret, ↓z_val, ↓z_pick, ↓z_cond, ↓z_boxRo_agg, ↓z_boxRo_int, ↓z_boxRo_bool, ↓z_boxRo_str, ↓z_boxRo_sl, ↓z_boxRo_fn, ↓z_boxRo_vptr, ↓z_boxRo_ref, ↓z_len_sl, ↓z_len_msl, ↓z_len_str, ↓z_load1, ↓z_fa, ↓z_fa_ref, ↓z_callF, ↓z_andK, ↓z_orK, ↓z_and1, ↓z_and2, ↓z_and3, ↓z_and4, ↓z_and5, ↓z_and6, ↓z_and7, ↓z_and8, ↓z_and9, ↓z_and10, ↓z_and11, ↓z_and12, ↓z_or1, ↓z_or2, ↓z_or3, ↓z_or4, ↓z_or5, ↓z_or6, ↓z_or7, ↓z_or8, ↓z_or9, ↓z_or10, ↓z_or11, ↓z_or12, ↓z_add, ↓z_sub, ↓z_mul, ↓z_eql, ↓z_neq, ↓z_lss, ↓z_leq, ↓z_gtr, ↓z_geq, ↓z_not, ↓z_neg, ↓z_fin_int, ↓z_fin_bool, ↓z_fin_str, ↓z_ent_int, ↓z_ent_bool, ↓z_ent_str, ↓z_stn, ↓z_ldnn, ↓z_ldn0, ↓z_ldn1, ↓z_ldn2, ↓z_ldn3, ↓z_ldn4, ↓z_ldn5, ↓z_ldn6, ↓z_ldn7, ↓z_ldn8, List.drop_zero, List.drop_succ_cons, List.cons_append, List.nil_append, decide_eq_true_eq, decide_eq_false_iff_not, ite_not, ↓reduceIte, pub_agg, pub_int, pub_bool, pub_str, pub_fn, pub_vptr, pub_nilp, Nat.zero_add, List.length_cons, List.length_nil, Nat.reduceAdd, List.all_cons, List.all_nil, isCell_int, isCell_bool, isCell_str, isCell_sl, Bool.and_self, ↓z_loadn, Nat.reduceLeDiff, Nat.le_refl, List.take_succ_cons, List.take_zero, hw]
      have hj2 := (List.getElem?_eq_some_iff.1 hg2).1
      rw [full_set _ _ _ hlt]
      have := ih (out.length + 1) (nextR x nr) (out ++ [valR R inp out nr x]) (by omega) (by simp) (by unfold nextR; split <;> omega) ha.2 { own := S'.own.set j (.cells (full (out ++ [valR R inp out nr x]) p.ins.length)), up := S'.up, ro := S'.ro } (hS'.set j _ hj) (by simp [hj2])
      exact this
    obtain ⟨S'', e1, e2, e3⟩ := key (S.new (.cells [I x.op, I x.a, I x.b])) (hS.new _) rfl
    refine ⟨S'', ?_, e2, e3⟩
    refine f9_j4_ok G X hR s inp vi hI _ _ _ _ x out nr j p.ins.length S hS hg _ (by omega) rfl ea (by rw [hin]; exact ha.1) fun S' hS' hown => ?_
    have : S' = S.new (.cells [I x.op, I x.a, I x.b]) := by
      obtain ⟨a1, a2, _⟩ := hS'
      obtain ⟨b1, b2, _⟩ := hS.new (.cells [I x.op, I x.a, I x.b])
      cases S'
      simp -implicitDefEqProofs only at a1 a2 hown
      simp -implicitDefEqProofs only [St.new] at hown b1 b2 ⊢
      rw [hown, a1, a2, b1, b2]
    rw [this]
    exact e1
theorem f9_ok (p : Prog) (s : St) (inp : List Int) (vi : AV) (hI : InP G X s vi inp) (hv : p.vals.length ≤ 9223372036854775807) (hvv : ∀ v, v ∈ p.vals → v.1.length ≤ 9223372036854775807) (hin : (inp.length : Int) = p.inputs) (hc : p.check = 0) :
    ∃ S', callω T1 G X 9 [p.enc, .agg [fc, fa, fs, fm, fr], vi] s = .ok (.tup [.msl (.g s.depth s.own.length) 0 p.ins.length p.ins.length 1, I 0]) S' ∧ Kept s S' ∧ S'.own[s.own.length]? = some (.cells ((runR R inp p.ins 0 []).map I)) := by
  rw [f9_call, f9_eq]
  have h7 := f7_ok G X p s hv hvv
  simp -implicitDefEqProofs only [Prog.enc, Prog.cs] at h7
  have h3 := f9_l3_ok G X hR s p inp vi hI (check0 hc).1 hin s.own.length (Nat.le_refl _) p.ins.length 0 0 [] (by omega) rfl (by omega) (okAll_scan _ _ _ _ _ _ (check0 hc).2.2.1) (s.new (.cells (List.replicate p.ins.length (I 0)))) ((Kept.refl s).new _) (by simp [St.new, full])
  simp -implicitDefEqProofs only [Int.natCast_zero, List.drop_zero] at h3
  have hmk := fun (k : K1) => z_make (T := T1) (G := G) (X := X) (s := s) (k := k) (I 0) 8 0 p.ins.length (Nat.zero_le _) (by have := (check0 hc).1; omega)
  simp -implicitDefEqProofs only [Int.natCast_zero] at hmk
  simp -implicitDefEqProofs only [Prog.enc, Prog.cs, ↓z_ret, ↓z_val, ↓z_pick, ↓z_cond, ↓z_boxRo_agg, ↓z_boxRo_int, ↓z_boxRo_bool, ↓z_boxRo_str, ↓z_boxRo_sl, ↓z_boxRo_fn, ↓z_boxRo_vptr, ↓z_boxRo_ref, ↓z_len_sl, ↓z_len_msl, ↓z_len_str, ↓z_load1, ↓z_fa, ↓z_fa_ref, ↓z_callF, ↓z_andK, ↓z_orK, ↓z_and1, ↓z_and2, ↓z_and3, ↓z_and4, ↓z_and5, ↓z_and6, ↓z_and7, ↓z_and8, ↓z_and9, ↓z_and10, ↓z_and11, ↓z_and12, ↓z_or1, ↓z_or2, ↓z_or3, ↓z_or4, ↓z_or5, ↓z_or6, ↓z_or7, ↓z_or8, ↓z_or9, ↓z_or10, ↓z_or11, ↓z_or12, ↓z_add, ↓z_sub, ↓z_mul, ↓z_eql, ↓z_neq, ↓z_lss, ↓z_leq, ↓z_gtr, ↓z_geq, ↓z_not, ↓z_neg, ↓z_fin_int, ↓z_fin_bool, ↓z_fin_str, ↓z_ent_int, ↓z_ent_bool, ↓z_ent_str, ↓z_stn, ↓z_ldnn, ↓z_ldn0, ↓z_ldn1, ↓z_ldn2, ↓z_ldn3, ↓z_ldn4, ↓z_ldn5, ↓z_ldn6, ↓z_ldn7, ↓z_ldn8, List.drop_zero, List.drop_succ_cons, List.cons_append, List.nil_append, decide_eq_true_eq, decide_eq_false_iff_not, ite_not, ↓reduceIte, pub_agg, pub_int, pub_bool, pub_str, pub_fn, pub_vptr, pub_nilp, Nat.zero_add, List.length_cons, List.length_nil, Nat.reduceAdd, List.all_cons, List.all_nil, isCell_int, isCell_bool, isCell_str, isCell_sl, Bool.and_self, ↓z_loadn, Nat.reduceLeDiff, Nat.le_refl, List.take_succ_cons, List.take_zero, z_call0 h7, eq_true hc, hin, f9_j1_eq _ (PP_ok _ _ _), f9_j2_eq _ (PP_ok _ _ _), decide_true, decide_false, Bool.false_eq_true, not_true_eq_false, List.length_map, ↓hmk, hI.len _ _ (Kept.refl s)]
  exact h3
end
theorem ringP_pure (m b : Int) : RingP G X (opsM m b) (.fn 19 [.vptr (rcs m b)]) (.fn 20 [.vptr (rcs m b)]) (.fn 22 [.vptr (rcs m b)]) (.fn 24 [.vptr (rcs m b)]) (.fn 26 [.vptr (rcs m b)]) where
  c := fun n S k => by rw [z_callF]; exact z_call0 (f19_ok G X m b n S)
  add := fun x y S k => by rw [z_callF]; exact z_call0 (f20_ok G X m b x y S)
  sub := fun x y S k => by rw [z_callF]; exact z_call0 (f22_ok G X m b x y S)
  mul := fun x y S k => by rw [z_callF]; exact z_call0 (f24_ok G X m b x y S)
  root := fun x y S k => by rw [z_callF]; exact z_call0 (f26_ok G X m b x y S)
end Go.AbY
end
section
namespace Go.AbY
open Go.Ab
variable (G : Nat → AV) (X : Nat → List AV → St → Res)
set_option linter.unusedSimpArgs false
set_option linter.unusedVariables false
theorem child_depth {s S : St} (h : Child s S) : S.depth = s.depth + 1 := by simp [St.depth, h.up, h.ro]; omega
theorem z_ld_g {S : St} {k : K1} {d j o : Nat} {cs : List AV} {c : AV} (hd : S.depth = d) (h : S.own[j]? = some (.cells cs)) (hc : cs[o]? = some c) : (PP T1 G X).load S k none (.ref (.g d j) o) = k c S := by
  rw [zz_load]
  simp -implicitDefEqProofs only [loadOp]
  rw [show S.get (.g d j) = some (.cells cs) from by simp -implicitDefEqProofs only [St.get, hd, if_true]; exact h]
  simp -implicitDefEqProofs only [loadV]
  have : cs.drop o = c :: cs.drop (o + 1) := by
    have ho := (List.getElem?_eq_some_iff.1 hc)
    rw [List.drop_eq_getElem_cons ho.1, ho.2]
  rw [this]
  rfl
theorem z_st_g {S : St} {k : K1} {d j o : Nat} {cs : List AV} {v : AV} (hd : S.depth = d) (h : S.own[j]? = some (.cells cs)) (ho : o < cs.length) (hv : v.isCell = true) (hc : v.cells = [v]) :
    (PP T1 G X).store S k 1 (.ref (.g d j) o) v = k .dead { S with own := S.own.set j (.cells (cs.set o v)) } := by
  rw [zz_store]
  have hval : v.isVal = true := by cases v <;> first | rfl | cases hv
  simp -implicitDefEqProofs only [storeOp, hval, hc, List.length_cons, List.length_nil, Nat.zero_add, Nat.beq_refl, Bool.and_self, cond_true]
  unfold storeV
  rw [show S.get (.g d j) = some (.cells cs) from by simp -implicitDefEqProofs only [St.get, hd, if_true]; exact h]
  simp -implicitDefEqProofs only [List.length_cons, List.length_nil, Nat.zero_add, show Nat.ble (o + 1) cs.length = true from Nat.ble_eq_true_of_le ho, show S.takes (.g d j) [v] = true from by simp [St.takes, St.isOwn, hd], List.all_cons, hv, List.all_nil, Bool.and_self, cond_true]
  simp -implicitDefEqProofs only [St.set, hd, if_true]
  rfl
/-! Rows that are changed in place. -/
abbrev msl1 (d n j : Nat) : AV := .msl (.g d j) 0 n n 1
def rowsE (d n : Nat) (js : Nat → Nat) (T : Nat) : List AV := (List.range T).map fun t => msl1 d n (js t)
structure Rows (S : St) (js : Nat → Nat) (M : Nat → List Int) (T n : Nat) : Prop where
  cell : ∀ t, t < T → S.own[js t]? = some (.cells ((M t).map I))
  len : ∀ t, t < T → (M t).length = n
  inj : ∀ t u, t < T → u < T → js t = js u → t = u
def upd (M : Nat → List Int) (t : Nat) (l : List Int) : Nat → List Int := fun u => if u = t then l else M u
theorem upd_self (M : Nat → List Int) (t : Nat) : upd M t (M t) = M := by
  funext u; unfold upd; split
  · rename_i h; rw [h]
  · rfl
theorem upd_upd (M : Nat → List Int) (t : Nat) (l l' : List Int) : upd (upd M t l) t l' = upd M t l' := by
  funext u; unfold upd; split <;> rfl
theorem upd_at (M : Nat → List Int) (t : Nat) (l : List Int) : upd M t l t = l := if_pos rfl
theorem upd_ne (M : Nat → List Int) (t : Nat) (l : List Int) {u : Nat} (h : u ≠ t) : upd M t l u = M u := if_neg h
theorem Rows.set {S : St} {js : Nat → Nat} {M : Nat → List Int} {T n : Nat} (h : Rows S js M T n) {t : Nat} (ht : t < T) (l : List Int) (hl : l.length = n) : Rows { S with own := S.own.set (js t) (.cells (l.map I)) } js (upd M t l) T n where
  cell := fun u hu => by
    have hj := (List.getElem?_eq_some_iff.1 (h.cell t ht)).1
    by_cases e : u = t
    · subst e
      simp [upd, hj]
    · have hne : js t ≠ js u := fun e' => e (h.inj u t hu ht e'.symm)
      simp -implicitDefEqProofs only [upd, e, if_false]
      rw [List.getElem?_set_ne hne]
      exact h.cell u hu
  len := fun u hu => by
    unfold upd
    split
    · exact hl
    · exact h.len u hu
  inj := h.inj
theorem rowsE_get (d n : Nat) (js : Nat → Nat) (T t : Nat) (h : t < T) : (rowsE d n js T)[t]? = some (msl1 d n (js t)) := by simp [rowsE, h]
theorem rowsE_succ (d n : Nat) (js : Nat → Nat) (T : Nat) : rowsE d n js (T + 1) = rowsE d n js T ++ [msl1 d n (js T)] := by simp [rowsE, List.range_succ]
theorem rowsE_len (d n : Nat) (js : Nat → Nat) (T : Nat) : (rowsE d n js T).length = T := by simp [rowsE]
/-- The differences of two rows. -/
def diffL (a b : List Int) : List Int := List.zipWith (fun x y => W64 (y - x)) a b
theorem diffL_len (a b : List Int) (h : a.length = b.length) : (diffL a b).length = a.length := by simp [diffL, h]
def part (a b : List Int) (i : Nat) : List Int := (diffL a b).take i ++ a.drop i
theorem part_len (a b : List Int) (h : a.length = b.length) (i : Nat) : (part a b i).length = a.length := by
  simp [part, diffL, h]; omega
theorem part_get (a b : List Int) (i : Nat) (h : a.length = b.length) (hi : i < a.length) : (part a b i)[i]? = some (a.getD i 0) := by
  unfold part
  rw [List.getElem?_append_right (by simp [diffL]; omega)]
  simp [diffL, h]
  have h1 : min i b.length = i := by omega
  simp [h1, List.getD, hi]
theorem part_set (a b : List Int) (i : Nat) (h : a.length = b.length) (hi : i < a.length) : (part a b i).set i (W64 (b.getD i 0 - a.getD i 0)) = part a b (i + 1) := by
  unfold part
  have hl : ((diffL a b).take i).length = i := by simp [diffL]; omega
  have hd : i < (diffL a b).length := by rw [diffL_len a b h]; exact hi
  rw [List.set_append_right _ _ (by omega), hl, Nat.sub_self, List.drop_eq_getElem_cons hi, List.set_cons_zero, List.take_succ_eq_append_getElem hd, List.append_assoc]
  have e : (diffL a b)[i] = W64 (b.getD i 0 - a.getD i 0) := by
    have hb : i < b.length := by omega
    simp [diffL, List.getD, hi, hb]
  rw [e]
  rfl
theorem part_all (a b : List Int) (h : a.length = b.length) : part a b a.length = diffL a b := by
  unfold part
  rw [List.drop_length, List.append_nil, List.take_of_length_le (by rw [diffL_len a b h]; exact Nat.le_refl _)]
theorem rows_ld {S : St} {k : K1} {d n : Nat} {js : Nat → Nat} {M : Nat → List Int} {T : Nat} (hd : S.depth = d) (h : Rows S js M T n) {t i : Nat} (ht : t < T) (hi : i < n) :
    (PP T1 G X).idx S (fun v S => (PP T1 G X).load S k none v) 1 (msl1 d n (js t)) (.int .i64 (i : Int)) = k (I ((M t).getD i 0)) S := by
  have hl : i < (M t).length := by rw [h.len t ht]; exact hi
  rw [msl1, z_idx_msl _ _ _ _ _ _ _ hi, z_ld_g G X hd (h.cell t ht) (c := I ((M t).getD i 0)) (by simp [List.getD, hl])]
theorem rows_row {S : St} {k : K1} (d n : Nat) (js : Nat → Nat) (g : Gr) {T t : Nat} (ht : t < T) :
    (PP T1 G X).idx S (fun v S => (PP T1 G X).load S k none v) 1 (.sl 1 (rowsE d n js T) g) (.int .i64 (t : Int)) = k (msl1 d n (js t)) S := by
  rw [z_idx _ _ _ _ _ _ (rowsE_get d n js T t ht)]
  rfl
theorem f5_l15_ok (s : St) (n T : Nat) (js : Nat → Nat) (D : List Int) (gD g : Gr) (nn : Int) (R : Res) (t : Nat) (hn : n ≤ 8192) (hT : T ≤ 14) (hD : D.length = n) (ht : t + 1 < T) (a b : List Int) (hab : a.length = b.length) :
    ∀ (m i : Nat), i + m = n → ∀ (S : St) (M : Nat → List Int), Child s S → Rows S js M T n → M t = part a b i → M (t + 1) = b → 
    (∀ S', Child s S' → Rows S' js (upd M t (diffL a b)) T n → f5_j18 (PP T1 G X) (.bool true) (sl1 D gD) (.sl 1 (rowsE (s.depth + 1) n js T) g) (I nn) (I t) S' = R) →
    f5_l15 (PP T1 G X) (.bool true) (sl1 D gD) (.sl 1 (rowsE (s.depth + 1) n js T) g) (I nn) (.int .i64 (t : Int)) (.int .i64 (i : Int)) S = R := by
  intro m
  induction m with
  | zero =>
    intro i hi S M hS hr hm hb hk
    have hi' : i = n := by omega
    have hal : a.length = n := by rw [← part_len a b hab i, ← hm]; exact hr.len t (by omega)
    have h : ¬ ((i : Int) < (D.length : Int)) := by omega
    rw [f5_l15_eq _ (PP_ok _ _ _)]
    simp -implicitDefEqProofs only [↓z_ret, ↓z_val, ↓z_pick, ↓z_cond, ↓z_boxRo_agg, ↓z_boxRo_int, ↓z_boxRo_bool, ↓z_boxRo_str, ↓z_boxRo_sl, ↓z_boxRo_fn, ↓z_boxRo_vptr, ↓z_boxRo_ref, ↓z_len_sl, ↓z_len_msl, ↓z_len_str, ↓z_load1, ↓z_fa, ↓z_fa_ref, ↓z_callF, ↓z_andK, ↓z_orK, ↓z_and1, ↓z_and2, ↓z_and3, ↓z_and4, ↓z_and5, ↓z_and6, ↓z_and7, ↓z_and8, ↓z_and9, ↓z_and10, ↓z_and11, ↓z_and12, ↓z_or1, ↓z_or2, ↓z_or3, ↓z_or4, ↓z_or5, ↓z_or6, ↓z_or7, ↓z_or8, ↓z_or9, ↓z_or10, ↓z_or11, ↓z_or12, ↓z_add, ↓z_sub, ↓z_mul, ↓z_eql, ↓z_neq, ↓z_lss, ↓z_leq, ↓z_gtr, ↓z_geq, ↓z_not, ↓z_neg, ↓z_fin_int, ↓z_fin_bool, ↓z_fin_str, ↓z_ent_int, ↓z_ent_bool, ↓z_ent_str, ↓z_stn, ↓z_ldnn, ↓z_ldn0, ↓z_ldn1, ↓z_ldn2, ↓z_ldn3, ↓z_ldn4, ↓z_ldn5, ↓z_ldn6, ↓z_ldn7, ↓z_ldn8, List.drop_zero, List.drop_succ_cons, List.cons_append, List.nil_append, decide_eq_true_eq, decide_eq_false_iff_not, ite_not, ↓reduceIte, pub_agg, pub_int, pub_bool, pub_str, pub_fn, pub_vptr, pub_nilp, Nat.zero_add, List.length_cons, List.length_nil, Nat.reduceAdd, List.all_cons, List.all_nil, isCell_int, isCell_bool, isCell_str, isCell_sl, Bool.and_self, ↓z_loadn, Nat.reduceLeDiff, Nat.le_refl, List.take_succ_cons, List.take_zero, sl1, List.length_map, eq_false h, decide_false, Bool.false_eq_true]
    refine hk S hS ?_
    have e : upd M t (diffL a b) = M := by rw [← part_all a b hab, hal, ← hi', ← hm, upd_self]
    rw [e]
    exact hr
  | succ m ih =>
    intro i hi S M hS hr hm hb hk
    have hal : a.length = n := by rw [← part_len a b hab i, ← hm]; exact hr.len t (by omega)
    have h : (i : Int) < (D.length : Int) := by omega
    have hlt : i < n := by omega
    have hd := child_depth hS
    have hw : IntKind.wrap .i64 ((i : Int) + 1) = ((i + 1 : Nat) : Int) := wrap_succ i (by omega)
    have hwt : IntKind.wrap .i64 ((t : Int) + 1) = ((t + 1 : Nat) : Int) := wrap_succ t (by omega)
    have e1 : (M t).getD i 0 = a.getD i 0 := by
      rw [hm]
      have := part_get a b i hab (by omega)
      simp -implicitDefEqProofs only [List.getD, this, Option.getD_some]
    have e2 : (M (t + 1)).getD i 0 = b.getD i 0 := by rw [hb]
    rw [f5_l15_eq _ (PP_ok _ _ _)]
    simp -implicitDefEqProofs only [↓z_ret, ↓z_val, ↓z_pick, ↓z_cond, ↓z_boxRo_agg, ↓z_boxRo_int, ↓z_boxRo_bool, ↓z_boxRo_str, ↓z_boxRo_sl, ↓z_boxRo_fn, ↓z_boxRo_vptr, ↓z_boxRo_ref, ↓z_len_sl, ↓z_len_msl, ↓z_len_str, ↓z_load1, ↓z_fa, ↓z_fa_ref, ↓z_callF, ↓z_andK, ↓z_orK, ↓z_and1, ↓z_and2, ↓z_and3, ↓z_and4, ↓z_and5, ↓z_and6, ↓z_and7, ↓z_and8, ↓z_and9, ↓z_and10, ↓z_and11, ↓z_and12, ↓z_or1, ↓z_or2, ↓z_or3, ↓z_or4, ↓z_or5, ↓z_or6, ↓z_or7, ↓z_or8, ↓z_or9, ↓z_or10, ↓z_or11, ↓z_or12, ↓z_add, ↓z_sub, ↓z_mul, ↓z_eql, ↓z_neq, ↓z_lss, ↓z_leq, ↓z_gtr, ↓z_geq, ↓z_not, ↓z_neg, ↓z_fin_int, ↓z_fin_bool, ↓z_fin_str, ↓z_ent_int, ↓z_ent_bool, ↓z_ent_str, ↓z_stn, ↓z_ldnn, ↓z_ldn0, ↓z_ldn1, ↓z_ldn2, ↓z_ldn3, ↓z_ldn4, ↓z_ldn5, ↓z_ldn6, ↓z_ldn7, ↓z_ldn8, List.drop_zero, List.drop_succ_cons, List.cons_append, List.nil_append, decide_eq_true_eq, decide_eq_false_iff_not, ite_not, ↓reduceIte, pub_agg, pub_int, pub_bool, pub_str, pub_fn, pub_vptr, pub_nilp, Nat.zero_add, List.length_cons, List.length_nil, Nat.reduceAdd, List.all_cons, List.all_nil, isCell_int, isCell_bool, isCell_str, isCell_sl, Bool.and_self, ↓z_loadn, Nat.reduceLeDiff, Nat.le_refl, List.take_succ_cons, List.take_zero, sl1, List.length_map, eq_true h, decide_true, if_true]
    rw [f5_j16_eq _ (PP_ok _ _ _), rows_row G X _ n js g (by omega)]
    simp -implicitDefEqProofs only [↓z_ret, ↓z_val, ↓z_pick, ↓z_cond, ↓z_boxRo_agg, ↓z_boxRo_int, ↓z_boxRo_bool, ↓z_boxRo_str, ↓z_boxRo_sl, ↓z_boxRo_fn, ↓z_boxRo_vptr, ↓z_boxRo_ref, ↓z_len_sl, ↓z_len_msl, ↓z_len_str, ↓z_load1, ↓z_fa, ↓z_fa_ref, ↓z_callF, ↓z_andK, ↓z_orK, ↓z_and1, ↓z_and2, ↓z_and3, ↓z_and4, ↓z_and5, ↓z_and6, ↓z_and7, ↓z_and8, ↓z_and9, ↓z_and10, ↓z_and11, ↓z_and12, ↓z_or1, ↓z_or2, ↓z_or3, ↓z_or4, ↓z_or5, ↓z_or6, ↓z_or7, ↓z_or8, ↓z_or9, ↓z_or10, ↓z_or11, ↓z_or12, ↓z_add, ↓z_sub, ↓z_mul, ↓z_eql, ↓z_neq, ↓z_lss, ↓z_leq, ↓z_gtr, ↓z_geq, ↓z_not, ↓z_neg, ↓z_fin_int, ↓z_fin_bool, ↓z_fin_str, ↓z_ent_int, ↓z_ent_bool, ↓z_ent_str, ↓z_stn, ↓z_ldnn, ↓z_ldn0, ↓z_ldn1, ↓z_ldn2, ↓z_ldn3, ↓z_ldn4, ↓z_ldn5, ↓z_ldn6, ↓z_ldn7, ↓z_ldn8, List.drop_zero, List.drop_succ_cons, List.cons_append, List.nil_append, decide_eq_true_eq, decide_eq_false_iff_not, ite_not, ↓reduceIte, pub_agg, pub_int, pub_bool, pub_str, pub_fn, pub_vptr, pub_nilp, Nat.zero_add, List.length_cons, List.length_nil, Nat.reduceAdd, List.all_cons, List.all_nil, isCell_int, isCell_bool, isCell_str, isCell_sl, Bool.and_self, ↓z_loadn, Nat.reduceLeDiff, Nat.le_refl, List.take_succ_cons, List.take_zero, hwt]
    rw [rows_row G X _ n js g ht, rows_ld G X hd hr ht hlt, rows_row G X _ n js g (by omega), rows_ld G X hd hr (by omega) hlt]
    have hcl := hr.cell t (by omega)
    have hln := hr.len t (by omega)
    simp -implicitDefEqProofs only [↓z_ret, ↓z_val, ↓z_pick, ↓z_cond, ↓z_boxRo_agg, ↓z_boxRo_int, ↓z_boxRo_bool, ↓z_boxRo_str, ↓z_boxRo_sl, ↓z_boxRo_fn, ↓z_boxRo_vptr, ↓z_boxRo_ref, ↓z_len_sl, ↓z_len_msl, ↓z_len_str, ↓z_load1, ↓z_fa, ↓z_fa_ref, ↓z_callF, ↓z_andK, ↓z_orK, ↓z_and1, ↓z_and2, ↓z_and3, ↓z_and4, ↓z_and5, ↓z_and6, ↓z_and7, ↓z_and8, ↓z_and9, ↓z_and10, ↓z_and11, ↓z_and12, ↓z_or1, ↓z_or2, ↓z_or3, ↓z_or4, ↓z_or5, ↓z_or6, ↓z_or7, ↓z_or8, ↓z_or9, ↓z_or10, ↓z_or11, ↓z_or12, ↓z_add, ↓z_sub, ↓z_mul, ↓z_eql, ↓z_neq, ↓z_lss, ↓z_leq, ↓z_gtr, ↓z_geq, ↓z_not, ↓z_neg, ↓z_fin_int, ↓z_fin_bool, ↓z_fin_str, ↓z_ent_int, ↓z_ent_bool, ↓z_ent_str, ↓z_stn, ↓z_ldnn, ↓z_ldn0, ↓z_ldn1, ↓z_ldn2, ↓z_ldn3, ↓z_ldn4, ↓z_ldn5, ↓z_ldn6, ↓z_ldn7, ↓z_ldn8, List.drop_zero, List.drop_succ_cons, List.cons_append, List.nil_append, decide_eq_true_eq, decide_eq_false_iff_not, ite_not, ↓reduceIte, pub_agg, pub_int, pub_bool, pub_str, pub_fn, pub_vptr, pub_nilp, Nat.zero_add, List.length_cons, List.length_nil, Nat.reduceAdd, List.all_cons, List.all_nil, isCell_int, isCell_bool, isCell_str, isCell_sl, Bool.and_self, ↓z_loadn, Nat.reduceLeDiff, Nat.le_refl, List.take_succ_cons, List.take_zero, e1, e2]
    rw [msl1, z_idx_msl _ _ _ _ _ _ _ hlt, z_st_g G X hd hcl (by simp; omega) rfl rfl, f5_j17_eq _ (PP_ok _ _ _)]
    simp -implicitDefEqProofs only [↓z_ret, ↓z_val, ↓z_pick, ↓z_cond, ↓z_boxRo_agg, ↓z_boxRo_int, ↓z_boxRo_bool, ↓z_boxRo_str, ↓z_boxRo_sl, ↓z_boxRo_fn, ↓z_boxRo_vptr, ↓z_boxRo_ref, ↓z_len_sl, ↓z_len_msl, ↓z_len_str, ↓z_load1, ↓z_fa, ↓z_fa_ref, ↓z_callF, ↓z_andK, ↓z_orK, ↓z_and1, ↓z_and2, ↓z_and3, ↓z_and4, ↓z_and5, ↓z_and6, ↓z_and7, ↓z_and8, ↓z_and9, ↓z_and10, ↓z_and11, ↓z_and12, ↓z_or1, ↓z_or2, ↓z_or3, ↓z_or4, ↓z_or5, ↓z_or6, ↓z_or7, ↓z_or8, ↓z_or9, ↓z_or10, ↓z_or11, ↓z_or12, ↓z_add, ↓z_sub, ↓z_mul, ↓z_eql, ↓z_neq, ↓z_lss, ↓z_leq, ↓z_gtr, ↓z_geq, ↓z_not, ↓z_neg, ↓z_fin_int, ↓z_fin_bool, ↓z_fin_str, ↓z_ent_int, ↓z_ent_bool, ↓z_ent_str, ↓z_stn, ↓z_ldnn, ↓z_ldn0, ↓z_ldn1, ↓z_ldn2, ↓z_ldn3, ↓z_ldn4, ↓z_ldn5, ↓z_ldn6, ↓z_ldn7, ↓z_ldn8, List.drop_zero, List.drop_succ_cons, List.cons_append, List.nil_append, decide_eq_true_eq, decide_eq_false_iff_not, ite_not, ↓reduceIte, pub_agg, pub_int, pub_bool, pub_str, pub_fn, pub_vptr, pub_nilp, Nat.zero_add, List.length_cons, List.length_nil, Nat.reduceAdd, List.all_cons, List.all_nil, isCell_int, isCell_bool, isCell_str, isCell_sl, Bool.and_self, ↓z_loadn, Nat.reduceLeDiff, Nat.le_refl, List.take_succ_cons, List.take_zero, hw]
    have es : ((M t).map I).set (i * 1) (.int .i64 (IntKind.wrap .i64 (b.getD i 0 - a.getD i 0))) = (part a b (i + 1)).map I := by
      rw [Nat.mul_one, ← part_set a b i hab (by omega), List.map_set, hm]
    rw [es]
    have hr2 := hr.set (t := t) (by omega) (part a b (i + 1)) (by rw [part_len a b hab]; exact hal)
    refine ih (i + 1) (by omega) _ _ ⟨hS.up, hS.ro⟩ hr2 (upd_at _ _ _) (by rw [upd_ne _ _ _ (by omega)]; exact hb) (fun S' hS' hr' => ?_)
    rw [upd_upd] at hr'
    exact hk S' hS' hr'
/-- The differences of the rows, of an order. -/
def Dk (V : Nat → List Int) : Nat → Nat → List Int
  | 0, t => V t
  | k + 1, t => diffL (Dk V k t) (Dk V k (t + 1))
theorem Dk_len (V : Nat → List Int) (n : Nat) (hV : ∀ t, (V t).length = n) : ∀ k t, (Dk V k t).length = n
  | 0, t => hV t
  | k + 1, t => by
    show (diffL _ _).length = n
    rw [diffL_len _ _ (by rw [Dk_len V n hV k, Dk_len V n hV k]), Dk_len V n hV k]
theorem part_zero (a b : List Int) : part a b 0 = a := by simp [part]
theorem f5_l13_ok (s : St) (n : Nat) (js : Nat → Nat) (D : List Int) (gD g : Gr) (R : Res) (hn : n ≤ 8192) (hD : D.length = n) (V : Nat → List Int) (hV : ∀ t, (V t).length = n) (k : Nat) (hk : k ≤ 12)
    (hR : ∀ S M, Child s S → Rows S js M 14 n → (∀ u, u ≤ 12 - k → M u = Dk V (k + 1) u) → f5_j19 (PP T1 G X) (.bool true) (sl1 D gD) (.sl 1 (rowsE (s.depth + 1) n js 14) g) (I ((k + 1 : Nat) : Int)) S = R) :
    ∀ (m t : Nat), t + m = 13 - k → ∀ (S : St) (M : Nat → List Int), Child s S → Rows S js M 14 n → (∀ u, u < t → M u = Dk V (k + 1) u) → (∀ u, t ≤ u → u ≤ 13 - k → M u = Dk V k u) →
    f5_l13 (PP T1 G X) (.bool true) (sl1 D gD) (.sl 1 (rowsE (s.depth + 1) n js 14) g) (I ((k + 1 : Nat) : Int)) (.int .i64 (t : Int)) S = R := by
  intro m
  induction m with
  | zero =>
    intro t ht S M hS hr h1 h2
    have hw : IntKind.wrap .i64 ((t : Int) + ((k + 1 : Nat) : Int)) = ((t + (k + 1) : Nat) : Int) := by
      rw [wrap_in _ (by omega) (by omega)]; omega
    have h : ¬ (((t + (k + 1) : Nat) : Int) ≤ 13) := by omega
    rw [f5_l13_eq _ (PP_ok _ _ _)]
    simp -implicitDefEqProofs only [↓z_ret, ↓z_val, ↓z_pick, ↓z_cond, ↓z_boxRo_agg, ↓z_boxRo_int, ↓z_boxRo_bool, ↓z_boxRo_str, ↓z_boxRo_sl, ↓z_boxRo_fn, ↓z_boxRo_vptr, ↓z_boxRo_ref, ↓z_len_sl, ↓z_len_msl, ↓z_len_str, ↓z_load1, ↓z_fa, ↓z_fa_ref, ↓z_callF, ↓z_andK, ↓z_orK, ↓z_and1, ↓z_and2, ↓z_and3, ↓z_and4, ↓z_and5, ↓z_and6, ↓z_and7, ↓z_and8, ↓z_and9, ↓z_and10, ↓z_and11, ↓z_and12, ↓z_or1, ↓z_or2, ↓z_or3, ↓z_or4, ↓z_or5, ↓z_or6, ↓z_or7, ↓z_or8, ↓z_or9, ↓z_or10, ↓z_or11, ↓z_or12, ↓z_add, ↓z_sub, ↓z_mul, ↓z_eql, ↓z_neq, ↓z_lss, ↓z_leq, ↓z_gtr, ↓z_geq, ↓z_not, ↓z_neg, ↓z_fin_int, ↓z_fin_bool, ↓z_fin_str, ↓z_ent_int, ↓z_ent_bool, ↓z_ent_str, ↓z_stn, ↓z_ldnn, ↓z_ldn0, ↓z_ldn1, ↓z_ldn2, ↓z_ldn3, ↓z_ldn4, ↓z_ldn5, ↓z_ldn6, ↓z_ldn7, ↓z_ldn8, List.drop_zero, List.drop_succ_cons, List.cons_append, List.nil_append, decide_eq_true_eq, decide_eq_false_iff_not, ite_not, ↓reduceIte, pub_agg, pub_int, pub_bool, pub_str, pub_fn, pub_vptr, pub_nilp, Nat.zero_add, List.length_cons, List.length_nil, Nat.reduceAdd, List.all_cons, List.all_nil, isCell_int, isCell_bool, isCell_str, isCell_sl, Bool.and_self, ↓z_loadn, Nat.reduceLeDiff, Nat.le_refl, List.take_succ_cons, List.take_zero, hw, eq_false h, decide_false, Bool.false_eq_true]
    exact hR S M hS hr (fun u hu => h1 u (by omega))
  | succ m ih =>
    intro t ht S M hS hr h1 h2
    have hw : IntKind.wrap .i64 ((t : Int) + ((k + 1 : Nat) : Int)) = ((t + (k + 1) : Nat) : Int) := by
      rw [wrap_in _ (by omega) (by omega)]; omega
    have hwt : IntKind.wrap .i64 ((t : Int) + 1) = ((t + 1 : Nat) : Int) := wrap_succ t (by omega)
    have h : ((t + (k + 1) : Nat) : Int) ≤ 13 := by omega
    rw [f5_l13_eq _ (PP_ok _ _ _)]
    simp -implicitDefEqProofs only [↓z_ret, ↓z_val, ↓z_pick, ↓z_cond, ↓z_boxRo_agg, ↓z_boxRo_int, ↓z_boxRo_bool, ↓z_boxRo_str, ↓z_boxRo_sl, ↓z_boxRo_fn, ↓z_boxRo_vptr, ↓z_boxRo_ref, ↓z_len_sl, ↓z_len_msl, ↓z_len_str, ↓z_load1, ↓z_fa, ↓z_fa_ref, ↓z_callF, ↓z_andK, ↓z_orK, ↓z_and1, ↓z_and2, ↓z_and3, ↓z_and4, ↓z_and5, ↓z_and6, ↓z_and7, ↓z_and8, ↓z_and9, ↓z_and10, ↓z_and11, ↓z_and12, ↓z_or1, ↓z_or2, ↓z_or3, ↓z_or4, ↓z_or5, ↓z_or6, ↓z_or7, ↓z_or8, ↓z_or9, ↓z_or10, ↓z_or11, ↓z_or12, ↓z_add, ↓z_sub, ↓z_mul, ↓z_eql, ↓z_neq, ↓z_lss, ↓z_leq, ↓z_gtr, ↓z_geq, ↓z_not, ↓z_neg, ↓z_fin_int, ↓z_fin_bool, ↓z_fin_str, ↓z_ent_int, ↓z_ent_bool, ↓z_ent_str, ↓z_stn, ↓z_ldnn, ↓z_ldn0, ↓z_ldn1, ↓z_ldn2, ↓z_ldn3, ↓z_ldn4, ↓z_ldn5, ↓z_ldn6, ↓z_ldn7, ↓z_ldn8, List.drop_zero, List.drop_succ_cons, List.cons_append, List.nil_append, decide_eq_true_eq, decide_eq_false_iff_not, ite_not, ↓reduceIte, pub_agg, pub_int, pub_bool, pub_str, pub_fn, pub_vptr, pub_nilp, Nat.zero_add, List.length_cons, List.length_nil, Nat.reduceAdd, List.all_cons, List.all_nil, isCell_int, isCell_bool, isCell_str, isCell_sl, Bool.and_self, ↓z_loadn, Nat.reduceLeDiff, Nat.le_refl, List.take_succ_cons, List.take_zero, hw, eq_true h, decide_true, if_true]
    rw [f5_j14_eq _ (PP_ok _ _ _)]
    have hl := fun u => Dk_len V n hV k u
    have step := f5_l15_ok G X s n 14 js D gD g ((k + 1 : Nat) : Int) R t hn (by omega) hD (by omega) (Dk V k t) (Dk V k (t + 1)) (by rw [hl, hl]) n 0 (by omega) S M hS hr (by rw [part_zero]; exact h2 t (by omega) (by omega)) (h2 (t + 1) (by omega) (by omega)) (fun S' hS' hr' => by
      rw [f5_j18_eq _ (PP_ok _ _ _)]
      simp -implicitDefEqProofs only [↓z_ret, ↓z_val, ↓z_pick, ↓z_cond, ↓z_boxRo_agg, ↓z_boxRo_int, ↓z_boxRo_bool, ↓z_boxRo_str, ↓z_boxRo_sl, ↓z_boxRo_fn, ↓z_boxRo_vptr, ↓z_boxRo_ref, ↓z_len_sl, ↓z_len_msl, ↓z_len_str, ↓z_load1, ↓z_fa, ↓z_fa_ref, ↓z_callF, ↓z_andK, ↓z_orK, ↓z_and1, ↓z_and2, ↓z_and3, ↓z_and4, ↓z_and5, ↓z_and6, ↓z_and7, ↓z_and8, ↓z_and9, ↓z_and10, ↓z_and11, ↓z_and12, ↓z_or1, ↓z_or2, ↓z_or3, ↓z_or4, ↓z_or5, ↓z_or6, ↓z_or7, ↓z_or8, ↓z_or9, ↓z_or10, ↓z_or11, ↓z_or12, ↓z_add, ↓z_sub, ↓z_mul, ↓z_eql, ↓z_neq, ↓z_lss, ↓z_leq, ↓z_gtr, ↓z_geq, ↓z_not, ↓z_neg, ↓z_fin_int, ↓z_fin_bool, ↓z_fin_str, ↓z_ent_int, ↓z_ent_bool, ↓z_ent_str, ↓z_stn, ↓z_ldnn, ↓z_ldn0, ↓z_ldn1, ↓z_ldn2, ↓z_ldn3, ↓z_ldn4, ↓z_ldn5, ↓z_ldn6, ↓z_ldn7, ↓z_ldn8, List.drop_zero, List.drop_succ_cons, List.cons_append, List.nil_append, decide_eq_true_eq, decide_eq_false_iff_not, ite_not, ↓reduceIte, pub_agg, pub_int, pub_bool, pub_str, pub_fn, pub_vptr, pub_nilp, Nat.zero_add, List.length_cons, List.length_nil, Nat.reduceAdd, List.all_cons, List.all_nil, isCell_int, isCell_bool, isCell_str, isCell_sl, Bool.and_self, ↓z_loadn, Nat.reduceLeDiff, Nat.le_refl, List.take_succ_cons, List.take_zero, hwt]
      refine ih (t + 1) (by omega) S' _ hS' hr' (fun u hu => ?_) (fun u hu hu2 => ?_)
      · by_cases e : u = t
        · subst e; rw [upd_at]; rfl
        · rw [upd_ne _ _ _ e]; exact h1 u (by omega)
      · rw [upd_ne _ _ _ (by omega)]; exact h2 u (by omega) hu2)
    exact step
theorem f5_l20_ok (s : St) (n : Nat) (js : Nat → Nat) (D : List Int) (gD g : Gr) (R : Res) (hn : n ≤ 8192) (hD : D.length = n) (nn : Nat) (M : Nat → List Int) (S : St) (hS : Child s S) (hr : Rows S js M 14 n)
    (hz : ∀ i, i < n → D.getD i 0 < nn → (M 0).getD i 0 = 0)
    (hR : f5_j23 (PP T1 G X) (.bool true) (sl1 D gD) (.sl 1 (rowsE (s.depth + 1) n js 14) g) (I (nn : Int)) S = R) :
    ∀ (m i : Nat), i + m = n → f5_l20 (PP T1 G X) (.bool true) (sl1 D gD) (.sl 1 (rowsE (s.depth + 1) n js 14) g) (I (nn : Int)) (.int .i64 (i : Int)) S = R := by
  intro m
  induction m with
  | zero =>
    intro i hi
    have h : ¬ ((i : Int) < (D.length : Int)) := by omega
    rw [f5_l20_eq _ (PP_ok _ _ _)]
    simp -implicitDefEqProofs only [↓z_ret, ↓z_val, ↓z_pick, ↓z_cond, ↓z_boxRo_agg, ↓z_boxRo_int, ↓z_boxRo_bool, ↓z_boxRo_str, ↓z_boxRo_sl, ↓z_boxRo_fn, ↓z_boxRo_vptr, ↓z_boxRo_ref, ↓z_len_sl, ↓z_len_msl, ↓z_len_str, ↓z_load1, ↓z_fa, ↓z_fa_ref, ↓z_callF, ↓z_andK, ↓z_orK, ↓z_and1, ↓z_and2, ↓z_and3, ↓z_and4, ↓z_and5, ↓z_and6, ↓z_and7, ↓z_and8, ↓z_and9, ↓z_and10, ↓z_and11, ↓z_and12, ↓z_or1, ↓z_or2, ↓z_or3, ↓z_or4, ↓z_or5, ↓z_or6, ↓z_or7, ↓z_or8, ↓z_or9, ↓z_or10, ↓z_or11, ↓z_or12, ↓z_add, ↓z_sub, ↓z_mul, ↓z_eql, ↓z_neq, ↓z_lss, ↓z_leq, ↓z_gtr, ↓z_geq, ↓z_not, ↓z_neg, ↓z_fin_int, ↓z_fin_bool, ↓z_fin_str, ↓z_ent_int, ↓z_ent_bool, ↓z_ent_str, ↓z_stn, ↓z_ldnn, ↓z_ldn0, ↓z_ldn1, ↓z_ldn2, ↓z_ldn3, ↓z_ldn4, ↓z_ldn5, ↓z_ldn6, ↓z_ldn7, ↓z_ldn8, List.drop_zero, List.drop_succ_cons, List.cons_append, List.nil_append, decide_eq_true_eq, decide_eq_false_iff_not, ite_not, ↓reduceIte, pub_agg, pub_int, pub_bool, pub_str, pub_fn, pub_vptr, pub_nilp, Nat.zero_add, List.length_cons, List.length_nil, Nat.reduceAdd, List.all_cons, List.all_nil, isCell_int, isCell_bool, isCell_str, isCell_sl, Bool.and_self, ↓z_loadn, Nat.reduceLeDiff, Nat.le_refl, List.take_succ_cons, List.take_zero, sl1, List.length_map, eq_false h, decide_false, Bool.false_eq_true]
    exact hR
  | succ m ih =>
    intro i hi
    have h : (i : Int) < (D.length : Int) := by omega
    have hlt : i < n := by omega
    have hw : IntKind.wrap .i64 ((i : Int) + 1) = ((i + 1 : Nat) : Int) := wrap_succ i (by omega)
    have hd := child_depth hS
    have hrow := fun (S : St) (k : K1) => rows_row G X (S := S) (k := k) (s.depth + 1) n js g (show 0 < 14 by omega)
    have hld := fun (k : K1) => rows_ld G X (k := k) hd hr (show 0 < 14 by omega) hlt
    simp -implicitDefEqProofs only [Int.natCast_zero] at hrow
    have ih' := ih (i + 1) (by omega)
    simp -implicitDefEqProofs only [sl1] at ih'
    rw [f5_l20_eq _ (PP_ok _ _ _)]
    simp -implicitDefEqProofs only [↓z_ret, ↓z_val, ↓z_pick, ↓z_cond, ↓z_boxRo_agg, ↓z_boxRo_int, ↓z_boxRo_bool, ↓z_boxRo_str, ↓z_boxRo_sl, ↓z_boxRo_fn, ↓z_boxRo_vptr, ↓z_boxRo_ref, ↓z_len_sl, ↓z_len_msl, ↓z_len_str, ↓z_load1, ↓z_fa, ↓z_fa_ref, ↓z_callF, ↓z_andK, ↓z_orK, ↓z_and1, ↓z_and2, ↓z_and3, ↓z_and4, ↓z_and5, ↓z_and6, ↓z_and7, ↓z_and8, ↓z_and9, ↓z_and10, ↓z_and11, ↓z_and12, ↓z_or1, ↓z_or2, ↓z_or3, ↓z_or4, ↓z_or5, ↓z_or6, ↓z_or7, ↓z_or8, ↓z_or9, ↓z_or10, ↓z_or11, ↓z_or12, ↓z_add, ↓z_sub, ↓z_mul, ↓z_eql, ↓z_neq, ↓z_lss, ↓z_leq, ↓z_gtr, ↓z_geq, ↓z_not, ↓z_neg, ↓z_fin_int, ↓z_fin_bool, ↓z_fin_str, ↓z_ent_int, ↓z_ent_bool, ↓z_ent_str, ↓z_stn, ↓z_ldnn, ↓z_ldn0, ↓z_ldn1, ↓z_ldn2, ↓z_ldn3, ↓z_ldn4, ↓z_ldn5, ↓z_ldn6, ↓z_ldn7, ↓z_ldn8, List.drop_zero, List.drop_succ_cons, List.cons_append, List.nil_append, decide_eq_true_eq, decide_eq_false_iff_not, ite_not, ↓reduceIte, pub_agg, pub_int, pub_bool, pub_str, pub_fn, pub_vptr, pub_nilp, Nat.zero_add, List.length_cons, List.length_nil, Nat.reduceAdd, List.all_cons, List.all_nil, isCell_int, isCell_bool, isCell_str, isCell_sl, Bool.and_self, ↓z_loadn, Nat.reduceLeDiff, Nat.le_refl, List.take_succ_cons, List.take_zero, sl1, List.length_map, eq_true h, decide_true, if_true]
    rw [f5_j21_eq _ (PP_ok _ _ _)]
    by_cases hc : D.getD i 0 < (nn : Int)
    · simp -implicitDefEqProofs only [↓z_ret, ↓z_val, ↓z_pick, ↓z_cond, ↓z_boxRo_agg, ↓z_boxRo_int, ↓z_boxRo_bool, ↓z_boxRo_str, ↓z_boxRo_sl, ↓z_boxRo_fn, ↓z_boxRo_vptr, ↓z_boxRo_ref, ↓z_len_sl, ↓z_len_msl, ↓z_len_str, ↓z_load1, ↓z_fa, ↓z_fa_ref, ↓z_callF, ↓z_andK, ↓z_orK, ↓z_and1, ↓z_and2, ↓z_and3, ↓z_and4, ↓z_and5, ↓z_and6, ↓z_and7, ↓z_and8, ↓z_and9, ↓z_and10, ↓z_and11, ↓z_and12, ↓z_or1, ↓z_or2, ↓z_or3, ↓z_or4, ↓z_or5, ↓z_or6, ↓z_or7, ↓z_or8, ↓z_or9, ↓z_or10, ↓z_or11, ↓z_or12, ↓z_add, ↓z_sub, ↓z_mul, ↓z_eql, ↓z_neq, ↓z_lss, ↓z_leq, ↓z_gtr, ↓z_geq, ↓z_not, ↓z_neg, ↓z_fin_int, ↓z_fin_bool, ↓z_fin_str, ↓z_ent_int, ↓z_ent_bool, ↓z_ent_str, ↓z_stn, ↓z_ldnn, ↓z_ldn0, ↓z_ldn1, ↓z_ldn2, ↓z_ldn3, ↓z_ldn4, ↓z_ldn5, ↓z_ldn6, ↓z_ldn7, ↓z_ldn8, List.drop_zero, List.drop_succ_cons, List.cons_append, List.nil_append, decide_eq_true_eq, decide_eq_false_iff_not, ite_not, ↓reduceIte, pub_agg, pub_int, pub_bool, pub_str, pub_fn, pub_vptr, pub_nilp, Nat.zero_add, List.length_cons, List.length_nil, Nat.reduceAdd, List.all_cons, List.all_nil, isCell_int, isCell_bool, isCell_str, isCell_sl, Bool.and_self, ↓z_loadn, Nat.reduceLeDiff, Nat.le_refl, List.take_succ_cons, List.take_zero, idx_out G X D _ (i : Int) (by omega) (by omega), Int.toNat_natCast, eq_true hc, decide_true, ↓hrow, ↓hld, hz i hlt hc, not_true_eq_false, decide_false, Bool.false_eq_true]
      rw [f5_j22_eq _ (PP_ok _ _ _)]
      simp -implicitDefEqProofs only [↓z_ret, ↓z_val, ↓z_pick, ↓z_cond, ↓z_boxRo_agg, ↓z_boxRo_int, ↓z_boxRo_bool, ↓z_boxRo_str, ↓z_boxRo_sl, ↓z_boxRo_fn, ↓z_boxRo_vptr, ↓z_boxRo_ref, ↓z_len_sl, ↓z_len_msl, ↓z_len_str, ↓z_load1, ↓z_fa, ↓z_fa_ref, ↓z_callF, ↓z_andK, ↓z_orK, ↓z_and1, ↓z_and2, ↓z_and3, ↓z_and4, ↓z_and5, ↓z_and6, ↓z_and7, ↓z_and8, ↓z_and9, ↓z_and10, ↓z_and11, ↓z_and12, ↓z_or1, ↓z_or2, ↓z_or3, ↓z_or4, ↓z_or5, ↓z_or6, ↓z_or7, ↓z_or8, ↓z_or9, ↓z_or10, ↓z_or11, ↓z_or12, ↓z_add, ↓z_sub, ↓z_mul, ↓z_eql, ↓z_neq, ↓z_lss, ↓z_leq, ↓z_gtr, ↓z_geq, ↓z_not, ↓z_neg, ↓z_fin_int, ↓z_fin_bool, ↓z_fin_str, ↓z_ent_int, ↓z_ent_bool, ↓z_ent_str, ↓z_stn, ↓z_ldnn, ↓z_ldn0, ↓z_ldn1, ↓z_ldn2, ↓z_ldn3, ↓z_ldn4, ↓z_ldn5, ↓z_ldn6, ↓z_ldn7, ↓z_ldn8, List.drop_zero, List.drop_succ_cons, List.cons_append, List.nil_append, decide_eq_true_eq, decide_eq_false_iff_not, ite_not, ↓reduceIte, pub_agg, pub_int, pub_bool, pub_str, pub_fn, pub_vptr, pub_nilp, Nat.zero_add, List.length_cons, List.length_nil, Nat.reduceAdd, List.all_cons, List.all_nil, isCell_int, isCell_bool, isCell_str, isCell_sl, Bool.and_self, ↓z_loadn, Nat.reduceLeDiff, Nat.le_refl, List.take_succ_cons, List.take_zero, hw]
      exact ih'
    · simp -implicitDefEqProofs only [↓z_ret, ↓z_val, ↓z_pick, ↓z_cond, ↓z_boxRo_agg, ↓z_boxRo_int, ↓z_boxRo_bool, ↓z_boxRo_str, ↓z_boxRo_sl, ↓z_boxRo_fn, ↓z_boxRo_vptr, ↓z_boxRo_ref, ↓z_len_sl, ↓z_len_msl, ↓z_len_str, ↓z_load1, ↓z_fa, ↓z_fa_ref, ↓z_callF, ↓z_andK, ↓z_orK, ↓z_and1, ↓z_and2, ↓z_and3, ↓z_and4, ↓z_and5, ↓z_and6, ↓z_and7, ↓z_and8, ↓z_and9, ↓z_and10, ↓z_and11, ↓z_and12, ↓z_or1, ↓z_or2, ↓z_or3, ↓z_or4, ↓z_or5, ↓z_or6, ↓z_or7, ↓z_or8, ↓z_or9, ↓z_or10, ↓z_or11, ↓z_or12, ↓z_add, ↓z_sub, ↓z_mul, ↓z_eql, ↓z_neq, ↓z_lss, ↓z_leq, ↓z_gtr, ↓z_geq, ↓z_not, ↓z_neg, ↓z_fin_int, ↓z_fin_bool, ↓z_fin_str, ↓z_ent_int, ↓z_ent_bool, ↓z_ent_str, ↓z_stn, ↓z_ldnn, ↓z_ldn0, ↓z_ldn1, ↓z_ldn2, ↓z_ldn3, ↓z_ldn4, ↓z_ldn5, ↓z_ldn6, ↓z_ldn7, ↓z_ldn8, List.drop_zero, List.drop_succ_cons, List.cons_append, List.nil_append, decide_eq_true_eq, decide_eq_false_iff_not, ite_not, ↓reduceIte, pub_agg, pub_int, pub_bool, pub_str, pub_fn, pub_vptr, pub_nilp, Nat.zero_add, List.length_cons, List.length_nil, Nat.reduceAdd, List.all_cons, List.all_nil, isCell_int, isCell_bool, isCell_str, isCell_sl, Bool.and_self, ↓z_loadn, Nat.reduceLeDiff, Nat.le_refl, List.take_succ_cons, List.take_zero, idx_out G X D _ (i : Int) (by omega) (by omega), Int.toNat_natCast, eq_false hc, decide_false, Bool.false_eq_true]
      rw [f5_j22_eq _ (PP_ok _ _ _)]
      simp -implicitDefEqProofs only [↓z_ret, ↓z_val, ↓z_pick, ↓z_cond, ↓z_boxRo_agg, ↓z_boxRo_int, ↓z_boxRo_bool, ↓z_boxRo_str, ↓z_boxRo_sl, ↓z_boxRo_fn, ↓z_boxRo_vptr, ↓z_boxRo_ref, ↓z_len_sl, ↓z_len_msl, ↓z_len_str, ↓z_load1, ↓z_fa, ↓z_fa_ref, ↓z_callF, ↓z_andK, ↓z_orK, ↓z_and1, ↓z_and2, ↓z_and3, ↓z_and4, ↓z_and5, ↓z_and6, ↓z_and7, ↓z_and8, ↓z_and9, ↓z_and10, ↓z_and11, ↓z_and12, ↓z_or1, ↓z_or2, ↓z_or3, ↓z_or4, ↓z_or5, ↓z_or6, ↓z_or7, ↓z_or8, ↓z_or9, ↓z_or10, ↓z_or11, ↓z_or12, ↓z_add, ↓z_sub, ↓z_mul, ↓z_eql, ↓z_neq, ↓z_lss, ↓z_leq, ↓z_gtr, ↓z_geq, ↓z_not, ↓z_neg, ↓z_fin_int, ↓z_fin_bool, ↓z_fin_str, ↓z_ent_int, ↓z_ent_bool, ↓z_ent_str, ↓z_stn, ↓z_ldnn, ↓z_ldn0, ↓z_ldn1, ↓z_ldn2, ↓z_ldn3, ↓z_ldn4, ↓z_ldn5, ↓z_ldn6, ↓z_ldn7, ↓z_ldn8, List.drop_zero, List.drop_succ_cons, List.cons_append, List.nil_append, decide_eq_true_eq, decide_eq_false_iff_not, ite_not, ↓reduceIte, pub_agg, pub_int, pub_bool, pub_str, pub_fn, pub_vptr, pub_nilp, Nat.zero_add, List.length_cons, List.length_nil, Nat.reduceAdd, List.all_cons, List.all_nil, isCell_int, isCell_bool, isCell_str, isCell_sl, Bool.and_self, ↓z_loadn, Nat.reduceLeDiff, Nat.le_refl, List.take_succ_cons, List.take_zero, hw]
      exact ih'
theorem f5_l11_ok (s : St) (n : Nat) (js : Nat → Nat) (D : List Int) (gD g : Gr) (hn : n ≤ 8192) (hD : D.length = n) (V : Nat → List Int) (hV : ∀ t, (V t).length = n)
    (hz : ∀ k, k ≤ 12 → ∀ i, i < n → D.getD i 0 < ((k + 1 : Nat) : Int) → (Dk V (k + 1) 0).getD i 0 = 0) :
    ∀ (m k : Nat), k + m = 13 → ∀ (S : St) (M : Nat → List Int), Child s S → Rows S js M 14 n → (∀ u, u ≤ 13 - k → M u = Dk V k u) →
    f5_l11 (PP T1 G X) (.bool true) (sl1 D gD) (.sl 1 (rowsE (s.depth + 1) n js 14) g) (I ((k + 1 : Nat) : Int)) S = .ok (.bool true) s := by
  intro m
  induction m with
  | zero =>
    intro k hk S M hS hr h1
    have h : ¬ (((k + 1 : Nat) : Int) ≤ 13) := by omega
    rw [f5_l11_eq _ (PP_ok _ _ _)]
    simp -implicitDefEqProofs only [↓z_ret, ↓z_val, ↓z_pick, ↓z_cond, ↓z_boxRo_agg, ↓z_boxRo_int, ↓z_boxRo_bool, ↓z_boxRo_str, ↓z_boxRo_sl, ↓z_boxRo_fn, ↓z_boxRo_vptr, ↓z_boxRo_ref, ↓z_len_sl, ↓z_len_msl, ↓z_len_str, ↓z_load1, ↓z_fa, ↓z_fa_ref, ↓z_callF, ↓z_andK, ↓z_orK, ↓z_and1, ↓z_and2, ↓z_and3, ↓z_and4, ↓z_and5, ↓z_and6, ↓z_and7, ↓z_and8, ↓z_and9, ↓z_and10, ↓z_and11, ↓z_and12, ↓z_or1, ↓z_or2, ↓z_or3, ↓z_or4, ↓z_or5, ↓z_or6, ↓z_or7, ↓z_or8, ↓z_or9, ↓z_or10, ↓z_or11, ↓z_or12, ↓z_add, ↓z_sub, ↓z_mul, ↓z_eql, ↓z_neq, ↓z_lss, ↓z_leq, ↓z_gtr, ↓z_geq, ↓z_not, ↓z_neg, ↓z_fin_int, ↓z_fin_bool, ↓z_fin_str, ↓z_ent_int, ↓z_ent_bool, ↓z_ent_str, ↓z_stn, ↓z_ldnn, ↓z_ldn0, ↓z_ldn1, ↓z_ldn2, ↓z_ldn3, ↓z_ldn4, ↓z_ldn5, ↓z_ldn6, ↓z_ldn7, ↓z_ldn8, List.drop_zero, List.drop_succ_cons, List.cons_append, List.nil_append, decide_eq_true_eq, decide_eq_false_iff_not, ite_not, ↓reduceIte, pub_agg, pub_int, pub_bool, pub_str, pub_fn, pub_vptr, pub_nilp, Nat.zero_add, List.length_cons, List.length_nil, Nat.reduceAdd, List.all_cons, List.all_nil, isCell_int, isCell_bool, isCell_str, isCell_sl, Bool.and_self, ↓z_loadn, Nat.reduceLeDiff, Nat.le_refl, List.take_succ_cons, List.take_zero, eq_false h, decide_false, Bool.false_eq_true]
    rw [f5_j24_eq _ (PP_ok _ _ _)]
    exact z_finC_bool hS true
  | succ m ih =>
    intro k hk S M hS hr h1
    have h : ((k + 1 : Nat) : Int) ≤ 13 := by omega
    have hw : IntKind.wrap .i64 (((k + 1 : Nat) : Int) + 1) = ((k + 1 + 1 : Nat) : Int) := wrap_succ (k + 1) (by omega)
    rw [f5_l11_eq _ (PP_ok _ _ _)]
    simp -implicitDefEqProofs only [↓z_ret, ↓z_val, ↓z_pick, ↓z_cond, ↓z_boxRo_agg, ↓z_boxRo_int, ↓z_boxRo_bool, ↓z_boxRo_str, ↓z_boxRo_sl, ↓z_boxRo_fn, ↓z_boxRo_vptr, ↓z_boxRo_ref, ↓z_len_sl, ↓z_len_msl, ↓z_len_str, ↓z_load1, ↓z_fa, ↓z_fa_ref, ↓z_callF, ↓z_andK, ↓z_orK, ↓z_and1, ↓z_and2, ↓z_and3, ↓z_and4, ↓z_and5, ↓z_and6, ↓z_and7, ↓z_and8, ↓z_and9, ↓z_and10, ↓z_and11, ↓z_and12, ↓z_or1, ↓z_or2, ↓z_or3, ↓z_or4, ↓z_or5, ↓z_or6, ↓z_or7, ↓z_or8, ↓z_or9, ↓z_or10, ↓z_or11, ↓z_or12, ↓z_add, ↓z_sub, ↓z_mul, ↓z_eql, ↓z_neq, ↓z_lss, ↓z_leq, ↓z_gtr, ↓z_geq, ↓z_not, ↓z_neg, ↓z_fin_int, ↓z_fin_bool, ↓z_fin_str, ↓z_ent_int, ↓z_ent_bool, ↓z_ent_str, ↓z_stn, ↓z_ldnn, ↓z_ldn0, ↓z_ldn1, ↓z_ldn2, ↓z_ldn3, ↓z_ldn4, ↓z_ldn5, ↓z_ldn6, ↓z_ldn7, ↓z_ldn8, List.drop_zero, List.drop_succ_cons, List.cons_append, List.nil_append, decide_eq_true_eq, decide_eq_false_iff_not, ite_not, ↓reduceIte, pub_agg, pub_int, pub_bool, pub_str, pub_fn, pub_vptr, pub_nilp, Nat.zero_add, List.length_cons, List.length_nil, Nat.reduceAdd, List.all_cons, List.all_nil, isCell_int, isCell_bool, isCell_str, isCell_sl, Bool.and_self, ↓z_loadn, Nat.reduceLeDiff, Nat.le_refl, List.take_succ_cons, List.take_zero, eq_true h, decide_true, if_true]
    rw [f5_j12_eq _ (PP_ok _ _ _)]
    refine f5_l13_ok G X s n js D gD g _ hn hD V hV k (by omega) (fun S' M' hS' hr' h' => ?_) (13 - k) 0 (by omega) S M hS hr (fun u hu => by omega) (fun u _ hu => h1 u hu)
    rw [f5_j19_eq _ (PP_ok _ _ _)]
    refine f5_l20_ok G X s n js D gD g _ hn hD (k + 1) M' S' hS' hr' (fun i hi hc => by rw [h' 0 (by omega)]; exact hz k (by omega) i hi hc) ?_ n 0 (by omega)
    rw [f5_j23_eq _ (PP_ok _ _ _)]
    simp -implicitDefEqProofs only [↓z_ret, ↓z_val, ↓z_pick, ↓z_cond, ↓z_boxRo_agg, ↓z_boxRo_int, ↓z_boxRo_bool, ↓z_boxRo_str, ↓z_boxRo_sl, ↓z_boxRo_fn, ↓z_boxRo_vptr, ↓z_boxRo_ref, ↓z_len_sl, ↓z_len_msl, ↓z_len_str, ↓z_load1, ↓z_fa, ↓z_fa_ref, ↓z_callF, ↓z_andK, ↓z_orK, ↓z_and1, ↓z_and2, ↓z_and3, ↓z_and4, ↓z_and5, ↓z_and6, ↓z_and7, ↓z_and8, ↓z_and9, ↓z_and10, ↓z_and11, ↓z_and12, ↓z_or1, ↓z_or2, ↓z_or3, ↓z_or4, ↓z_or5, ↓z_or6, ↓z_or7, ↓z_or8, ↓z_or9, ↓z_or10, ↓z_or11, ↓z_or12, ↓z_add, ↓z_sub, ↓z_mul, ↓z_eql, ↓z_neq, ↓z_lss, ↓z_leq, ↓z_gtr, ↓z_geq, ↓z_not, ↓z_neg, ↓z_fin_int, ↓z_fin_bool, ↓z_fin_str, ↓z_ent_int, ↓z_ent_bool, ↓z_ent_str, ↓z_stn, ↓z_ldnn, ↓z_ldn0, ↓z_ldn1, ↓z_ldn2, ↓z_ldn3, ↓z_ldn4, ↓z_ldn5, ↓z_ldn6, ↓z_ldn7, ↓z_ldn8, List.drop_zero, List.drop_succ_cons, List.cons_append, List.nil_append, decide_eq_true_eq, decide_eq_false_iff_not, ite_not, ↓reduceIte, pub_agg, pub_int, pub_bool, pub_str, pub_fn, pub_vptr, pub_nilp, Nat.zero_add, List.length_cons, List.length_nil, Nat.reduceAdd, List.all_cons, List.all_nil, isCell_int, isCell_bool, isCell_str, isCell_sl, Bool.and_self, ↓z_loadn, Nat.reduceLeDiff, Nat.le_refl, List.take_succ_cons, List.take_zero, hw]
    exact ih (k + 1) (by omega) S' M' hS' hr' (fun u hu => h' u (by omega))
end Go.AbY
end
section
namespace Go.AbY
open Go.Ab
variable (G : Nat → AV) (X : Nat → List AV → St → Res)
set_option linter.unusedSimpArgs false
set_option linter.unusedVariables false
theorem Kept.len {s S : St} (h : Kept s S) : s.own.length ≤ S.own.length := by
  rcases Nat.eq_zero_or_pos s.own.length with e | e
  · omega
  · have := h.own (s.own.length - 1) _ (List.getElem?_eq_getElem (by omega))
    have := (List.getElem?_eq_some_iff.1 this).1
    omega
theorem z_st_own {S : St} {k : K1} {j o : Nat} {cs : List AV} {v : AV} (h : S.own[j]? = some (.cells cs)) (ho : o < cs.length) (hv : v.isCell = true) (hc : v.cells = [v]) :
    (PP T1 G X).store S k 1 (.ref (.l j) o) v = k .dead { S with own := S.own.set j (.cells (cs.set o v)) } := by
  rw [zz_store]
  have hval : v.isVal = true := by cases v <;> first | rfl | cases hv
  simp -implicitDefEqProofs only [storeOp, hval, hc, List.length_cons, List.length_nil, Nat.zero_add, Nat.beq_refl, Bool.and_self, cond_true]
  unfold storeV
  rw [show S.get (.l j) = some (.cells cs) from h]
  simp -implicitDefEqProofs only [List.length_cons, List.length_nil, Nat.zero_add, show Nat.ble (o + 1) cs.length = true from Nat.ble_eq_true_of_le ho, show S.takes (.l j) [v] = true from by simp [St.takes, St.isOwn], List.all_cons, hv, List.all_nil, Bool.and_self, cond_true]
  rfl
theorem z_bsR {S : St} {k : K1} {d n j : Nat} (hd : S.depth = d) : (PP T1 G X).buildSliceR S k 1 [msl1 d n j] = k (.sl 1 [msl1 d n j] (.buf (.l S.own.length))) (S.new (.tok 1)) := by
  show buildSliceRV (EV G (callω T1 G X) loopω) S k 1 [msl1 d n j] = _
  unfold buildSliceRV
  have : AV.lowL S.depth [msl1 d n j] = true := by
    simp -implicitDefEqProofs only [AV.lowL, AV.low, Loc.low, msl1, Bool.and_true]
    exact Nat.ble_eq_true_of_le (by omega)
  rw [this]
  rfl
theorem z_apR0 {S : St} {k : K1} {d n j : Nat} {g : Gr} (hd : S.depth = d) : (PP T1 G X).appendR S k 1 24 (some (.l 0)) (.sl 1 [] .nil) (.sl 1 [msl1 d n j] g) = k (.sl 1 [msl1 d n j] (.buf (.l S.own.length))) (S.new (.tok 1)) := by
  show appendRV (EV G (callω T1 G X) loopω) S k 1 24 (.l 0) (.sl 1 [] .nil) (.sl 1 [msl1 d n j] g) = _
  unfold appendRV
  have : lowAt S (.l 0) [msl1 d n j] = true := by
    simp -implicitDefEqProofs only [lowAt, AV.lowL, AV.low, Loc.low, msl1, Bool.and_true]
    exact Nat.ble_eq_true_of_le (by omega)
  simp -implicitDefEqProofs only [this]
  rfl
theorem z_apR {S : St} {k : K1} {d n j jr : Nat} {es : List AV} {g : Gr} (hd : S.depth = d) (hg : S.own[jr]? = some (.tok es.length)) (hb : es.length ≤ 100) :
    (PP T1 G X).appendR S k 1 24 (some (.l 0)) (.sl 1 es (.buf (.l jr))) (.sl 1 [msl1 d n j] g) = k (.sl 1 (es ++ [msl1 d n j]) (.buf (.l jr))) { S with own := S.own.set jr (.tok (es.length + 1)) } := by
  show appendRV (EV G (callω T1 G X) loopω) S k 1 24 (.l 0) (.sl 1 es (.buf (.l jr))) (.sl 1 [msl1 d n j] g) = _
  unfold appendRV
  have : lowAt S (.l jr) [msl1 d n j] = true := by
    simp -implicitDefEqProofs only [lowAt, AV.lowL, AV.low, Loc.low, msl1, Bool.and_true]
    exact Nat.ble_eq_true_of_le (by omega)
  have hc : (List.flatMap AV.cells [msl1 d n j]).all AV.isCell = true := rfl
  simp -implicitDefEqProofs only [Nat.beq_refl, List.length_cons, List.length_nil, Nat.zero_add, show Nat.ble ((es.length + 1) * 24) 1099511627776 = true from Nat.ble_eq_true_of_le (by omega), Bool.and_self, cond_true, show S.get (.l jr) = some (.tok es.length) from hg, hc, this, St.set]
  rfl
theorem z_ext0 {T : Nat → Option AFn} {s : St} {k : K1} (a b : AV) : (PP T G X).extract s k 0 (.tup [a, b]) = k a s := z_extract _ _ _ rfl
theorem z_ext1 {T : Nat → Option AFn} {s : St} {k : K1} (a b : AV) : (PP T G X).extract s k 1 (.tup [a, b]) = k b s := z_extract _ _ _ rfl
theorem pub_msl_l (d i o l c z : Nat) : AV.pub d (.msl (.l i) o l c z) = .msl (.g d i) o l c z := rfl
theorem pub_msl_g (d e i o l c z : Nat) : AV.pub d (.msl (.g e i) o l c z) = .msl (.g e i) o l c z := rfl
theorem z_build_rule (s : St) (k : K1) (x y : Int) : (PP T1 G X).build [.int .i64 0, .int .i64 0, .sl 1 [] .nil] [(0, 1, I x), (1, 1, I y)] s k = k (.agg (rcs x y)) s := rfl
theorem f15_ok0 : callω T1 G X 15 [I 0, I 0] { own := [], up := [], ro := [] } = .ok (.agg (rcs 0 0)) { own := [], up := [], ro := [] } := by
  rw [f15_call, f15_eq]
  rfl
/-- The inputs at a place of the line. -/
def inpOf (fr by' : List Int) (t : Nat) : List Int := (List.range fr.length).map fun i => W64 (fr.getD i 0 + W64 ((t : Int) * by'.getD i 0))
theorem inpOf_len (fr by' : List Int) (t : Nat) : (inpOf fr by' t).length = fr.length := by simp [inpOf]
theorem inpOf_take (fr by' : List Int) (t i : Nat) (h : i < fr.length) : (inpOf fr by' t).take i ++ [W64 (fr.getD i 0 + W64 ((t : Int) * by'.getD i 0))] = (inpOf fr by' t).take (i + 1) := by
  rw [List.take_succ_eq_append_getElem (by rw [inpOf_len]; exact h)]
  simp [inpOf]
theorem f5_l4_ok (S0 : St) (p : Prog) (fr by' : List Int) (gf gb : Gr) (v8 v10 : AV) (t : Nat) (R : Res) (hf : fr.length ≤ 20) (hl : by'.length = fr.length) (hR : ∀ S, Kept S0 S → S.own[S0.own.length]? = some (.cells ((inpOf fr by' t).map I)) → f5_j7 (PP T1 G X) (sl1 fr gf) (sl1 by' gb) (.vptr p.cs) (.bool true) v8 v10 (I t) (.msl (.l S0.own.length) 0 fr.length fr.length 1) S = R) :
    ∀ (n i : Nat), i + n = fr.length → ∀ S, Kept S0 S → S.own[S0.own.length]? = some (.cells (full ((inpOf fr by' t).take i) fr.length)) →
    f5_l4 (PP T1 G X) (sl1 fr gf) (sl1 by' gb) (.vptr p.cs) (.bool true) v8 v10 (I t) (.msl (.l S0.own.length) 0 fr.length fr.length 1) (.int .i64 (i : Int)) S = R := by
  intro n
  induction n with
  | zero =>
    intro i hi S hS hg
    have h : ¬ ((i : Int) < (fr.length : Int)) := by omega
    have hi' : i = fr.length := by omega
    rw [f5_l4_eq _ (PP_ok _ _ _)]
    simp -implicitDefEqProofs only [↓z_ret, ↓z_val, ↓z_pick, ↓z_cond, ↓z_boxRo_agg, ↓z_boxRo_int, ↓z_boxRo_bool, ↓z_boxRo_str, ↓z_boxRo_sl, ↓z_boxRo_fn, ↓z_boxRo_vptr, ↓z_boxRo_ref, ↓z_len_sl, ↓z_len_msl, ↓z_len_str, ↓z_load1, ↓z_fa, ↓z_fa_ref, ↓z_callF, ↓z_andK, ↓z_orK, ↓z_and1, ↓z_and2, ↓z_and3, ↓z_and4, ↓z_and5, ↓z_and6, ↓z_and7, ↓z_and8, ↓z_and9, ↓z_and10, ↓z_and11, ↓z_and12, ↓z_or1, ↓z_or2, ↓z_or3, ↓z_or4, ↓z_or5, ↓z_or6, ↓z_or7, ↓z_or8, ↓z_or9, ↓z_or10, ↓z_or11, ↓z_or12, ↓z_add, ↓z_sub, ↓z_mul, ↓z_eql, ↓z_neq, ↓z_lss, ↓z_leq, ↓z_gtr, ↓z_geq, ↓z_not, ↓z_neg, ↓z_fin_int, ↓z_fin_bool, ↓z_fin_str, ↓z_ent_int, ↓z_ent_bool, ↓z_ent_str, ↓z_stn, ↓z_ldnn, ↓z_ldn0, ↓z_ldn1, ↓z_ldn2, ↓z_ldn3, ↓z_ldn4, ↓z_ldn5, ↓z_ldn6, ↓z_ldn7, ↓z_ldn8, List.drop_zero, List.drop_succ_cons, List.cons_append, List.nil_append, decide_eq_true_eq, decide_eq_false_iff_not, ite_not, ↓reduceIte, pub_agg, pub_int, pub_bool, pub_str, pub_fn, pub_vptr, pub_nilp, Nat.zero_add, List.length_cons, List.length_nil, Nat.reduceAdd, List.all_cons, List.all_nil, isCell_int, isCell_bool, isCell_str, isCell_sl, Bool.and_self, ↓z_loadn, Nat.reduceLeDiff, Nat.le_refl, List.take_succ_cons, List.take_zero, sl1, List.length_map, eq_false h, decide_false, Bool.false_eq_true]
    have e : full ((inpOf fr by' t).take i) fr.length = (inpOf fr by' t).map I := by
      rw [List.take_of_length_le (by rw [inpOf_len]; omega)]
      have := full_full (inpOf fr by' t)
      rwa [inpOf_len] at this
    rw [e] at hg
    exact hR S hS hg
  | succ n ih =>
    intro i hi S hS hg
    have h : (i : Int) < (fr.length : Int) := by omega
    have hlt : i < fr.length := by omega
    have hw : IntKind.wrap .i64 ((i : Int) + 1) = ((i + 1 : Nat) : Int) := wrap_succ i (by omega)
    have hlen : ((inpOf fr by' t).take i).length = i := by rw [List.length_take, inpOf_len]; omega
    rw [f5_l4_eq _ (PP_ok _ _ _)]
    simp -implicitDefEqProofs only [↓z_ret, ↓z_val, ↓z_pick, ↓z_cond, ↓z_boxRo_agg, ↓z_boxRo_int, ↓z_boxRo_bool, ↓z_boxRo_str, ↓z_boxRo_sl, ↓z_boxRo_fn, ↓z_boxRo_vptr, ↓z_boxRo_ref, ↓z_len_sl, ↓z_len_msl, ↓z_len_str, ↓z_load1, ↓z_fa, ↓z_fa_ref, ↓z_callF, ↓z_andK, ↓z_orK, ↓z_and1, ↓z_and2, ↓z_and3, ↓z_and4, ↓z_and5, ↓z_and6, ↓z_and7, ↓z_and8, ↓z_and9, ↓z_and10, ↓z_and11, ↓z_and12, ↓z_or1, ↓z_or2, ↓z_or3, ↓z_or4, ↓z_or5, ↓z_or6, ↓z_or7, ↓z_or8, ↓z_or9, ↓z_or10, ↓z_or11, ↓z_or12, ↓z_add, ↓z_sub, ↓z_mul, ↓z_eql, ↓z_neq, ↓z_lss, ↓z_leq, ↓z_gtr, ↓z_geq, ↓z_not, ↓z_neg, ↓z_fin_int, ↓z_fin_bool, ↓z_fin_str, ↓z_ent_int, ↓z_ent_bool, ↓z_ent_str, ↓z_stn, ↓z_ldnn, ↓z_ldn0, ↓z_ldn1, ↓z_ldn2, ↓z_ldn3, ↓z_ldn4, ↓z_ldn5, ↓z_ldn6, ↓z_ldn7, ↓z_ldn8, List.drop_zero, List.drop_succ_cons, List.cons_append, List.nil_append, decide_eq_true_eq, decide_eq_false_iff_not, ite_not, ↓reduceIte, pub_agg, pub_int, pub_bool, pub_str, pub_fn, pub_vptr, pub_nilp, Nat.zero_add, List.length_cons, List.length_nil, Nat.reduceAdd, List.all_cons, List.all_nil, isCell_int, isCell_bool, isCell_str, isCell_sl, Bool.and_self, ↓z_loadn, Nat.reduceLeDiff, Nat.le_refl, List.take_succ_cons, List.take_zero, sl1, List.length_map, eq_true h, decide_true, if_true]
    rw [f5_j5_eq _ (PP_ok _ _ _)]
    simp -implicitDefEqProofs only [↓z_ret, ↓z_val, ↓z_pick, ↓z_cond, ↓z_boxRo_agg, ↓z_boxRo_int, ↓z_boxRo_bool, ↓z_boxRo_str, ↓z_boxRo_sl, ↓z_boxRo_fn, ↓z_boxRo_vptr, ↓z_boxRo_ref, ↓z_len_sl, ↓z_len_msl, ↓z_len_str, ↓z_load1, ↓z_fa, ↓z_fa_ref, ↓z_callF, ↓z_andK, ↓z_orK, ↓z_and1, ↓z_and2, ↓z_and3, ↓z_and4, ↓z_and5, ↓z_and6, ↓z_and7, ↓z_and8, ↓z_and9, ↓z_and10, ↓z_and11, ↓z_and12, ↓z_or1, ↓z_or2, ↓z_or3, ↓z_or4, ↓z_or5, ↓z_or6, ↓z_or7, ↓z_or8, ↓z_or9, ↓z_or10, ↓z_or11, ↓z_or12, ↓z_add, ↓z_sub, ↓z_mul, ↓z_eql, ↓z_neq, ↓z_lss, ↓z_leq, ↓z_gtr, ↓z_geq, ↓z_not, ↓z_neg, ↓z_fin_int, ↓z_fin_bool, ↓z_fin_str, ↓z_ent_int, ↓z_ent_bool, ↓z_ent_str, ↓z_stn, ↓z_ldnn, ↓z_ldn0, ↓z_ldn1, ↓z_ldn2, ↓z_ldn3, ↓z_ldn4, ↓z_ldn5, ↓z_ldn6, ↓z_ldn7, ↓z_ldn8, List.drop_zero, List.drop_succ_cons, List.cons_append, List.nil_append, decide_eq_true_eq, decide_eq_false_iff_not, ite_not, ↓reduceIte, pub_agg, pub_int, pub_bool, pub_str, pub_fn, pub_vptr, pub_nilp, Nat.zero_add, List.length_cons, List.length_nil, Nat.reduceAdd, List.all_cons, List.all_nil, isCell_int, isCell_bool, isCell_str, isCell_sl, Bool.and_self, ↓z_loadn, Nat.reduceLeDiff, Nat.le_refl, List.take_succ_cons, List.take_zero, idx_out G X fr _ (i : Int) (by omega) (by omega), idx_out G X by' _ (i : Int) (by omega) (by omega), Int.toNat_natCast, z_idx_msl _ _ _ _ _ _ _ hlt]
    rw [z_st_own G X hg (by rw [full_len _ _ (by omega)]; omega) rfl rfl, f5_j6_eq _ (PP_ok _ _ _)]
    simp -implicitDefEqProofs only [↓z_ret, ↓z_val, ↓z_pick, ↓z_cond, ↓z_boxRo_agg, ↓z_boxRo_int, ↓z_boxRo_bool, ↓z_boxRo_str, ↓z_boxRo_sl, ↓z_boxRo_fn, ↓z_boxRo_vptr, ↓z_boxRo_ref, ↓z_len_sl, ↓z_len_msl, ↓z_len_str, ↓z_load1, ↓z_fa, ↓z_fa_ref, ↓z_callF, ↓z_andK, ↓z_orK, ↓z_and1, ↓z_and2, ↓z_and3, ↓z_and4, ↓z_and5, ↓z_and6, ↓z_and7, ↓z_and8, ↓z_and9, ↓z_and10, ↓z_and11, ↓z_and12, ↓z_or1, ↓z_or2, ↓z_or3, ↓z_or4, ↓z_or5, ↓z_or6, ↓z_or7, ↓z_or8, ↓z_or9, ↓z_or10, ↓z_or11, ↓z_or12, ↓z_add, ↓z_sub, ↓z_mul, ↓z_eql, ↓z_neq, ↓z_lss, ↓z_leq, ↓z_gtr, ↓z_geq, ↓z_not, ↓z_neg, ↓z_fin_int, ↓z_fin_bool, ↓z_fin_str, ↓z_ent_int, ↓z_ent_bool, ↓z_ent_str, ↓z_stn, ↓z_ldnn, ↓z_ldn0, ↓z_ldn1, ↓z_ldn2, ↓z_ldn3, ↓z_ldn4, ↓z_ldn5, ↓z_ldn6, ↓z_ldn7, ↓z_ldn8, List.drop_zero, List.drop_succ_cons, List.cons_append, List.nil_append, decide_eq_true_eq, decide_eq_false_iff_not, ite_not, ↓reduceIte, pub_agg, pub_int, pub_bool, pub_str, pub_fn, pub_vptr, pub_nilp, Nat.zero_add, List.length_cons, List.length_nil, Nat.reduceAdd, List.all_cons, List.all_nil, isCell_int, isCell_bool, isCell_str, isCell_sl, Bool.and_self, ↓z_loadn, Nat.reduceLeDiff, Nat.le_refl, List.take_succ_cons, List.take_zero, hw]
    have e := full_set ((inpOf fr by' t).take i) fr.length (W64 (fr.getD i 0 + W64 ((t : Int) * by'.getD i 0))) (by omega)
    rw [hlen, inpOf_take fr by' t i hlt] at e
    rw [Nat.mul_one]
    have e' : (full ((inpOf fr by' t).take i) fr.length).set i (.int .i64 (IntKind.wrap .i64 (fr.getD i 0 + IntKind.wrap .i64 ((t : Int) * by'.getD i 0)))) = full ((inpOf fr by' t).take (i + 1)) fr.length := e
    rw [e']
    have hj := (List.getElem?_eq_some_iff.1 hg).1
    exact ih (i + 1) (by omega) _ (hS.set _ _ (Nat.le_refl _)) (by simp [hj])
/-- The rows' list as it grows. -/
def GrowR (S : St) (g : Gr) (t : Nat) : Prop := (t = 0 ∧ g = .nil) ∨ ∃ jr, g = .buf (.l jr) ∧ 0 < t ∧ S.own[jr]? = some (.tok t)
theorem rowsE_congr (d n : Nat) (js js' : Nat → Nat) (T : Nat) (h : ∀ u, u < T → js u = js' u) : rowsE d n js T = rowsE d n js' T := by
  unfold rowsE
  apply List.map_congr_left
  intro u hu
  rw [h u (List.mem_range.1 hu)]
theorem Rows.kept {S S' : St} {js : Nat → Nat} {M : Nat → List Int} {T n : Nat} (h : Rows S js M T n) (k : Kept S S') : Rows S' js M T n := ⟨fun t ht => k.own _ _ (h.cell t ht), h.len, h.inj⟩
theorem f5_l2_ok (s : St) (p : Prog) (fr by' : List Int) (gf gb : Gr) (D : List Int) (gD : Gr) (hf : fr.length ≤ 20) (hl : by'.length = fr.length) (hin : (fr.length : Int) = p.inputs) (hc : p.check = 0) (hD : D.length = p.ins.length) (hv : p.vals.length ≤ 9223372036854775807) (hvv : ∀ v, v ∈ p.vals → v.1.length ≤ 9223372036854775807)
    (hz : ∀ k, k ≤ 12 → ∀ i, i < p.ins.length → D.getD i 0 < ((k + 1 : Nat) : Int) → (Dk (fun t => runR (opsM 0 0) (inpOf fr by' t) p.ins 0 []) (k + 1) 0).getD i 0 = 0) :
    ∀ (m t : Nat), t + m = 14 → ∀ (S : St) (js : Nat → Nat) (g : Gr), Child s S → Rows S js (fun t => runR (opsM 0 0) (inpOf fr by' t) p.ins 0 []) t p.ins.length → GrowR S g t →
    f5_l2 (PP T1 G X) (sl1 fr gf) (sl1 by' gb) (.vptr p.cs) (.bool true) (sl1 D gD) (.sl 1 (rowsE (s.depth + 1) p.ins.length js t) g) (.int .i64 (t : Int)) S = .ok (.bool true) s := by
  have hV : ∀ t, (runR (opsM 0 0) (inpOf fr by' t) p.ins 0 []).length = p.ins.length := fun t => by rw [runR_len]; simp
  have h8 := (check0 hc).1
  intro m
  induction m with
  | zero =>
    intro t ht S js g hS hr hg
    have e : t = 14 := by omega
    subst e
    have h : ¬ (((14 : Nat) : Int) ≤ 13) := by omega
    rw [f5_l2_eq _ (PP_ok _ _ _)]
    simp -implicitDefEqProofs only [↓z_ret, ↓z_val, ↓z_pick, ↓z_cond, ↓z_boxRo_agg, ↓z_boxRo_int, ↓z_boxRo_bool, ↓z_boxRo_str, ↓z_boxRo_sl, ↓z_boxRo_fn, ↓z_boxRo_vptr, ↓z_boxRo_ref, ↓z_len_sl, ↓z_len_msl, ↓z_len_str, ↓z_load1, ↓z_fa, ↓z_fa_ref, ↓z_callF, ↓z_andK, ↓z_orK, ↓z_and1, ↓z_and2, ↓z_and3, ↓z_and4, ↓z_and5, ↓z_and6, ↓z_and7, ↓z_and8, ↓z_and9, ↓z_and10, ↓z_and11, ↓z_and12, ↓z_or1, ↓z_or2, ↓z_or3, ↓z_or4, ↓z_or5, ↓z_or6, ↓z_or7, ↓z_or8, ↓z_or9, ↓z_or10, ↓z_or11, ↓z_or12, ↓z_add, ↓z_sub, ↓z_mul, ↓z_eql, ↓z_neq, ↓z_lss, ↓z_leq, ↓z_gtr, ↓z_geq, ↓z_not, ↓z_neg, ↓z_fin_int, ↓z_fin_bool, ↓z_fin_str, ↓z_ent_int, ↓z_ent_bool, ↓z_ent_str, ↓z_stn, ↓z_ldnn, ↓z_ldn0, ↓z_ldn1, ↓z_ldn2, ↓z_ldn3, ↓z_ldn4, ↓z_ldn5, ↓z_ldn6, ↓z_ldn7, ↓z_ldn8, List.drop_zero, List.drop_succ_cons, List.cons_append, List.nil_append, decide_eq_true_eq, decide_eq_false_iff_not, ite_not, ↓reduceIte, pub_agg, pub_int, pub_bool, pub_str, pub_fn, pub_vptr, pub_nilp, Nat.zero_add, List.length_cons, List.length_nil, Nat.reduceAdd, List.all_cons, List.all_nil, isCell_int, isCell_bool, isCell_str, isCell_sl, Bool.and_self, ↓z_loadn, Nat.reduceLeDiff, Nat.le_refl, List.take_succ_cons, List.take_zero, eq_false h, decide_false, Bool.false_eq_true]
    rw [f5_j10_eq _ (PP_ok _ _ _)]
    exact f5_l11_ok G X s p.ins.length js D gD g h8 hD _ hV hz 13 0 (by omega) S _ hS hr (fun u _ => rfl)
  | succ m ih =>
    intro t ht S js g hS hr hg
    have h : (t : Int) ≤ 13 := by omega
    have hw : IntKind.wrap .i64 ((t : Int) + 1) = ((t + 1 : Nat) : Int) := wrap_succ t (by omega)
    have hmk := fun (k : K1) => z_make (T := T1) (G := G) (X := X) (s := S) (k := k) (I 0) 8 fr.length fr.length (Nat.le_refl _) (by omega)
    rw [f5_l2_eq _ (PP_ok _ _ _)]
    simp -implicitDefEqProofs only [↓z_ret, ↓z_val, ↓z_pick, ↓z_cond, ↓z_boxRo_agg, ↓z_boxRo_int, ↓z_boxRo_bool, ↓z_boxRo_str, ↓z_boxRo_sl, ↓z_boxRo_fn, ↓z_boxRo_vptr, ↓z_boxRo_ref, ↓z_len_sl, ↓z_len_msl, ↓z_len_str, ↓z_load1, ↓z_fa, ↓z_fa_ref, ↓z_callF, ↓z_andK, ↓z_orK, ↓z_and1, ↓z_and2, ↓z_and3, ↓z_and4, ↓z_and5, ↓z_and6, ↓z_and7, ↓z_and8, ↓z_and9, ↓z_and10, ↓z_and11, ↓z_and12, ↓z_or1, ↓z_or2, ↓z_or3, ↓z_or4, ↓z_or5, ↓z_or6, ↓z_or7, ↓z_or8, ↓z_or9, ↓z_or10, ↓z_or11, ↓z_or12, ↓z_add, ↓z_sub, ↓z_mul, ↓z_eql, ↓z_neq, ↓z_lss, ↓z_leq, ↓z_gtr, ↓z_geq, ↓z_not, ↓z_neg, ↓z_fin_int, ↓z_fin_bool, ↓z_fin_str, ↓z_ent_int, ↓z_ent_bool, ↓z_ent_str, ↓z_stn, ↓z_ldnn, ↓z_ldn0, ↓z_ldn1, ↓z_ldn2, ↓z_ldn3, ↓z_ldn4, ↓z_ldn5, ↓z_ldn6, ↓z_ldn7, ↓z_ldn8, List.drop_zero, List.drop_succ_cons, List.cons_append, List.nil_append, decide_eq_true_eq, decide_eq_false_iff_not, ite_not, ↓reduceIte, pub_agg, pub_int, pub_bool, pub_str, pub_fn, pub_vptr, pub_nilp, Nat.zero_add, List.length_cons, List.length_nil, Nat.reduceAdd, List.all_cons, List.all_nil, isCell_int, isCell_bool, isCell_str, isCell_sl, Bool.and_self, ↓z_loadn, Nat.reduceLeDiff, Nat.le_refl, List.take_succ_cons, List.take_zero, eq_true h, decide_true, if_true]
    rw [f5_j3_eq _ (PP_ok _ _ _)]
    simp -implicitDefEqProofs only [↓z_ret, ↓z_val, ↓z_pick, ↓z_cond, ↓z_boxRo_agg, ↓z_boxRo_int, ↓z_boxRo_bool, ↓z_boxRo_str, ↓z_boxRo_sl, ↓z_boxRo_fn, ↓z_boxRo_vptr, ↓z_boxRo_ref, ↓z_len_sl, ↓z_len_msl, ↓z_len_str, ↓z_load1, ↓z_fa, ↓z_fa_ref, ↓z_callF, ↓z_andK, ↓z_orK, ↓z_and1, ↓z_and2, ↓z_and3, ↓z_and4, ↓z_and5, ↓z_and6, ↓z_and7, ↓z_and8, ↓z_and9, ↓z_and10, ↓z_and11, ↓z_and12, ↓z_or1, ↓z_or2, ↓z_or3, ↓z_or4, ↓z_or5, ↓z_or6, ↓z_or7, ↓z_or8, ↓z_or9, ↓z_or10, ↓z_or11, ↓z_or12, ↓z_add, ↓z_sub, ↓z_mul, ↓z_eql, ↓z_neq, ↓z_lss, ↓z_leq, ↓z_gtr, ↓z_geq, ↓z_not, ↓z_neg, ↓z_fin_int, ↓z_fin_bool, ↓z_fin_str, ↓z_ent_int, ↓z_ent_bool, ↓z_ent_str, ↓z_stn, ↓z_ldnn, ↓z_ldn0, ↓z_ldn1, ↓z_ldn2, ↓z_ldn3, ↓z_ldn4, ↓z_ldn5, ↓z_ldn6, ↓z_ldn7, ↓z_ldn8, List.drop_zero, List.drop_succ_cons, List.cons_append, List.nil_append, decide_eq_true_eq, decide_eq_false_iff_not, ite_not, ↓reduceIte, pub_agg, pub_int, pub_bool, pub_str, pub_fn, pub_vptr, pub_nilp, Nat.zero_add, List.length_cons, List.length_nil, Nat.reduceAdd, List.all_cons, List.all_nil, isCell_int, isCell_bool, isCell_str, isCell_sl, Bool.and_self, ↓z_loadn, Nat.reduceLeDiff, Nat.le_refl, List.take_succ_cons, List.take_zero, sl1, List.length_map, ↓hmk]
    have l4 := f5_l4_ok G X S p fr by' gf gb (sl1 D gD) (.sl 1 (rowsE (s.depth + 1) p.ins.length js t) g) t (.ok (.bool true) s) hf hl (fun S2 hS2 hg2 => ?_) fr.length 0 (by omega) (S.new (.cells (List.replicate fr.length (I 0)))) ((Kept.refl S).new _) (by simp [St.new, full])
    · exact l4
    · have hd2 : S2.depth = s.depth + 1 := child_depth (hS2.child hS)
      have hr10 : AV.reflessL [.agg (rcs 0 0)] = true := rfl
      have hring : (AV.agg (ringCs 0 0)).refless = true := rfl
      have hrule : (AV.agg (rcs 0 0)).refless = true := rfl
      have hr15 : AV.reflessL [I 0, I 0] = true := rfl
      have h9 := f9_ok G X (ringP_pure G X 0 0) p S2 (inpOf fr by' t) _ (inP_own G X S2 S.own.length (inpOf fr by' t) fr.length (inpOf_len _ _ _).symm hg2) hv hvv (by rw [inpOf_len]; exact hin) hc
      obtain ⟨S3, e3, k3, c3⟩ := h9
      have hd3 : S3.depth = s.depth + 1 := by rw [k3.depth]; exact hd2
      have hD1 : (p.ins.length : Int) = (D.length : Int) := by omega
      simp -implicitDefEqProofs only [Prog.cs, Prog.enc, hd2] at e3 ⊢
      rw [f5_j7_eq _ (PP_ok _ _ _)]
      have e3' := fun (k : K1) => z_call (k := k) e3 k3.depth
      simp -implicitDefEqProofs only [ringCs] at hring
      have h10 := f10_ok G X 0 0
      simp -implicitDefEqProofs only [ringCs] at h10
      simp -implicitDefEqProofs only [↓z_ret, ↓z_val, ↓z_pick, ↓z_cond, ↓z_boxRo_agg, ↓z_boxRo_int, ↓z_boxRo_bool, ↓z_boxRo_str, ↓z_boxRo_sl, ↓z_boxRo_fn, ↓z_boxRo_vptr, ↓z_boxRo_ref, ↓z_len_sl, ↓z_len_msl, ↓z_len_str, ↓z_load1, ↓z_fa, ↓z_fa_ref, ↓z_callF, ↓z_andK, ↓z_orK, ↓z_and1, ↓z_and2, ↓z_and3, ↓z_and4, ↓z_and5, ↓z_and6, ↓z_and7, ↓z_and8, ↓z_and9, ↓z_and10, ↓z_and11, ↓z_and12, ↓z_or1, ↓z_or2, ↓z_or3, ↓z_or4, ↓z_or5, ↓z_or6, ↓z_or7, ↓z_or8, ↓z_or9, ↓z_or10, ↓z_or11, ↓z_or12, ↓z_add, ↓z_sub, ↓z_mul, ↓z_eql, ↓z_neq, ↓z_lss, ↓z_leq, ↓z_gtr, ↓z_geq, ↓z_not, ↓z_neg, ↓z_fin_int, ↓z_fin_bool, ↓z_fin_str, ↓z_ent_int, ↓z_ent_bool, ↓z_ent_str, ↓z_stn, ↓z_ldnn, ↓z_ldn0, ↓z_ldn1, ↓z_ldn2, ↓z_ldn3, ↓z_ldn4, ↓z_ldn5, ↓z_ldn6, ↓z_ldn7, ↓z_ldn8, List.drop_zero, List.drop_succ_cons, List.cons_append, List.nil_append, decide_eq_true_eq, decide_eq_false_iff_not, ite_not, ↓reduceIte, pub_agg, pub_int, pub_bool, pub_str, pub_fn, pub_vptr, pub_nilp, Nat.zero_add, List.length_cons, List.length_nil, Nat.reduceAdd, List.all_cons, List.all_nil, isCell_int, isCell_bool, isCell_str, isCell_sl, Bool.and_self, ↓z_loadn, Nat.reduceLeDiff, Nat.le_refl, List.take_succ_cons, List.take_zero, sl1, z_callP hr15 (f15_ok0 G X) hrule, z_callP hr10 h10 hring, pub_msl_l, hd2, e3', ↓z_ext0, ↓z_ext1, not_true_eq_false, decide_false, Bool.false_eq_true, List.length_map, hD1]
      rw [f5_j8_eq _ (PP_ok _ _ _)]
      simp -implicitDefEqProofs only [pub_msl_g]
      rw [z_bsR G X hd3]
      have hlt : ∀ u, u < t → js u < S.own.length := fun u hu => (List.getElem?_eq_some_iff.1 (hr.cell u hu)).1
      have hle := hS2.len
      let js' : Nat → Nat := fun u => if u = t then S2.own.length else js u
      have hjs : ∀ u, u < t → js u = js' u := fun u hu => by simp -implicitDefEqProofs only [js']; rw [if_neg (by omega)]
      have hjt : js' t = S2.own.length := if_pos rfl
      have hrow : rowsE (s.depth + 1) p.ins.length js t ++ [msl1 (s.depth + 1) p.ins.length S2.own.length] = rowsE (s.depth + 1) p.ins.length js' (t + 1) := by
        rw [rowsE_succ, hjt, rowsE_congr _ _ _ _ _ hjs]
      have hr2 : ∀ S', Kept S S' → S'.own[S2.own.length]? = some (.cells ((runR (opsM 0 0) (inpOf fr by' t) p.ins 0 []).map I)) → Rows S' js' (fun t => runR (opsM 0 0) (inpOf fr by' t) p.ins 0 []) (t + 1) p.ins.length := fun S' k c => by
        refine ⟨fun u hu => ?_, fun u _ => hV u, fun u w hu hw e => ?_⟩
        · by_cases e : u = t
          · subst e; rw [hjt]; exact c
          · rw [← hjs u (by omega)]; exact k.own _ _ (hr.cell u (by omega))
        · by_cases e1 : u = t <;> by_cases e2 : w = t
          · omega
          · exfalso; rw [e1, hjt, ← hjs w (by omega)] at e; have := hlt w (by omega); omega
          · exfalso; rw [e2, hjt, ← hjs u (by omega)] at e; have := hlt u (by omega); omega
          · rw [← hjs u (by omega), ← hjs w (by omega)] at e; exact hr.inj u w (by omega) (by omega) e
      have k4 : Kept S (S3.new (.tok 1)) := (hS2.trans k3).new _
      have ih' := ih (t + 1) (by omega)
      simp -implicitDefEqProofs only [sl1] at ih'
      rcases hg with ⟨rfl, rfl⟩ | ⟨jr, rfl, htp, hgr⟩
      · have e0 : rowsE (s.depth + 1) p.ins.length js 0 = [] := rfl
        rw [e0] at hrow ⊢
        simp -implicitDefEqProofs only [List.nil_append] at hrow
        rw [z_apR0 G X (by rw [k4.depth]; exact child_depth hS), f5_j9_eq _ (PP_ok _ _ _), hrow]
        simp -implicitDefEqProofs only [↓z_ret, ↓z_val, ↓z_pick, ↓z_cond, ↓z_boxRo_agg, ↓z_boxRo_int, ↓z_boxRo_bool, ↓z_boxRo_str, ↓z_boxRo_sl, ↓z_boxRo_fn, ↓z_boxRo_vptr, ↓z_boxRo_ref, ↓z_len_sl, ↓z_len_msl, ↓z_len_str, ↓z_load1, ↓z_fa, ↓z_fa_ref, ↓z_callF, ↓z_andK, ↓z_orK, ↓z_and1, ↓z_and2, ↓z_and3, ↓z_and4, ↓z_and5, ↓z_and6, ↓z_and7, ↓z_and8, ↓z_and9, ↓z_and10, ↓z_and11, ↓z_and12, ↓z_or1, ↓z_or2, ↓z_or3, ↓z_or4, ↓z_or5, ↓z_or6, ↓z_or7, ↓z_or8, ↓z_or9, ↓z_or10, ↓z_or11, ↓z_or12, ↓z_add, ↓z_sub, ↓z_mul, ↓z_eql, ↓z_neq, ↓z_lss, ↓z_leq, ↓z_gtr, ↓z_geq, ↓z_not, ↓z_neg, ↓z_fin_int, ↓z_fin_bool, ↓z_fin_str, ↓z_ent_int, ↓z_ent_bool, ↓z_ent_str, ↓z_stn, ↓z_ldnn, ↓z_ldn0, ↓z_ldn1, ↓z_ldn2, ↓z_ldn3, ↓z_ldn4, ↓z_ldn5, ↓z_ldn6, ↓z_ldn7, ↓z_ldn8, List.drop_zero, List.drop_succ_cons, List.cons_append, List.nil_append, decide_eq_true_eq, decide_eq_false_iff_not, ite_not, ↓reduceIte, pub_agg, pub_int, pub_bool, pub_str, pub_fn, pub_vptr, pub_nilp, Nat.zero_add, List.length_cons, List.length_nil, Nat.reduceAdd, List.all_cons, List.all_nil, isCell_int, isCell_bool, isCell_str, isCell_sl, Bool.and_self, ↓z_loadn, Nat.reduceLeDiff, Nat.le_refl, List.take_succ_cons, List.take_zero, hw]
        refine ih' _ js' _ ((k4.new _).child hS) (hr2 _ (k4.new _) (own_new (own_new c3 _) _)) (.inr ⟨_, rfl, by omega, ?_⟩)
        simp [St.new]
      · have hlen : (rowsE (s.depth + 1) p.ins.length js t).length = t := rowsE_len _ _ _ _
        have hgr4 : (S3.new (.tok 1)).own[jr]? = some (.tok (rowsE (s.depth + 1) p.ins.length js t).length) := by rw [hlen]; exact k4.own _ _ hgr
        rw [z_apR G X (by rw [k4.depth]; exact child_depth hS) hgr4 (by omega), f5_j9_eq _ (PP_ok _ _ _), hrow]
        simp -implicitDefEqProofs only [↓z_ret, ↓z_val, ↓z_pick, ↓z_cond, ↓z_boxRo_agg, ↓z_boxRo_int, ↓z_boxRo_bool, ↓z_boxRo_str, ↓z_boxRo_sl, ↓z_boxRo_fn, ↓z_boxRo_vptr, ↓z_boxRo_ref, ↓z_len_sl, ↓z_len_msl, ↓z_len_str, ↓z_load1, ↓z_fa, ↓z_fa_ref, ↓z_callF, ↓z_andK, ↓z_orK, ↓z_and1, ↓z_and2, ↓z_and3, ↓z_and4, ↓z_and5, ↓z_and6, ↓z_and7, ↓z_and8, ↓z_and9, ↓z_and10, ↓z_and11, ↓z_and12, ↓z_or1, ↓z_or2, ↓z_or3, ↓z_or4, ↓z_or5, ↓z_or6, ↓z_or7, ↓z_or8, ↓z_or9, ↓z_or10, ↓z_or11, ↓z_or12, ↓z_add, ↓z_sub, ↓z_mul, ↓z_eql, ↓z_neq, ↓z_lss, ↓z_leq, ↓z_gtr, ↓z_geq, ↓z_not, ↓z_neg, ↓z_fin_int, ↓z_fin_bool, ↓z_fin_str, ↓z_ent_int, ↓z_ent_bool, ↓z_ent_str, ↓z_stn, ↓z_ldnn, ↓z_ldn0, ↓z_ldn1, ↓z_ldn2, ↓z_ldn3, ↓z_ldn4, ↓z_ldn5, ↓z_ldn6, ↓z_ldn7, ↓z_ldn8, List.drop_zero, List.drop_succ_cons, List.cons_append, List.nil_append, decide_eq_true_eq, decide_eq_false_iff_not, ite_not, ↓reduceIte, pub_agg, pub_int, pub_bool, pub_str, pub_fn, pub_vptr, pub_nilp, Nat.zero_add, List.length_cons, List.length_nil, Nat.reduceAdd, List.all_cons, List.all_nil, isCell_int, isCell_bool, isCell_str, isCell_sl, Bool.and_self, ↓z_loadn, Nat.reduceLeDiff, Nat.le_refl, List.take_succ_cons, List.take_zero, hw]
        have hj := (List.getElem?_eq_some_iff.1 hgr4).1
        have hjr := (List.getElem?_eq_some_iff.1 hgr).1
        have c4 : (S3.new (.tok 1)).own[S2.own.length]? = _ := own_new c3 _
        refine ih' _ js' _ ⟨k4.up.trans hS.up, k4.ro.trans hS.ro⟩ ?_ (.inr ⟨jr, rfl, by omega, by simp [hj, hlen]⟩)
        refine ⟨fun u hu => ?_, fun u _ => hV u, (hr2 _ k4 c4).inj⟩
        have hc := (hr2 _ k4 c4).cell u hu
        have hne : jr ≠ js' u := fun e => by
          rw [← e, hgr4] at hc
          cases hc
        simp -implicitDefEqProofs only
        rw [List.getElem?_set_ne hne]
        exact hc
end Go.AbY
end
section
namespace Go.AbY
open Go.Ab
set_option linter.unusedSimpArgs false
set_option linter.unusedVariables false
/-! Equal modulo 2^64. -/
def Cg (v w : Int) : Prop := (18446744073709551616 : Int) ∣ v - w
theorem w64_cg (a : Int) : Cg (W64 a) a := by
  show (18446744073709551616 : Int) ∣ IntKind.wrap .i64 a - a
  unfold IntKind.wrap
  simp -implicitDefEqProofs only [show IntKind.bits .i64 = 64 from rfl, show IntKind.signed .i64 = true from rfl, Bool.true_and, decide_eq_true_eq, show (2 : Int) ^ 64 = 18446744073709551616 from by decide, show (2 : Int) ^ (64 - 1) = 9223372036854775808 from by decide]
  split <;> omega
theorem w64_zero (a : Int) (h : Cg a 0) : W64 a = 0 := by
  have h' : (18446744073709551616 : Int) ∣ a - 0 := h
  show IntKind.wrap .i64 a = 0
  unfold IntKind.wrap
  simp -implicitDefEqProofs only [show IntKind.bits .i64 = 64 from rfl, show IntKind.signed .i64 = true from rfl, Bool.true_and, decide_eq_true_eq, show (2 : Int) ^ 64 = 18446744073709551616 from by decide, show (2 : Int) ^ (64 - 1) = 9223372036854775808 from by decide]
  split <;> omega
theorem Cg.refl (a : Int) : Cg a a := ⟨0, by omega⟩
theorem Cg.trans {a b c : Int} (h : Cg a b) (k : Cg b c) : Cg a c := by
  unfold Cg at *; omega
theorem Cg.add {a b c d : Int} (h : Cg a b) (k : Cg c d) : Cg (a + c) (b + d) := by
  unfold Cg at *; omega
theorem Cg.sub {a b c d : Int} (h : Cg a b) (k : Cg c d) : Cg (a - c) (b - d) := by
  unfold Cg at *; omega
theorem Cg.mul {a b c d : Int} (h : Cg a b) (k : Cg c d) : Cg (a * c) (b * d) := by
  obtain ⟨x, hx⟩ := h
  obtain ⟨y, hy⟩ := k
  refine ⟨a * y + x * d, ?_⟩
  have h1 : a * c - b * d = a * (c - d) + (a - b) * d := by rw [Int.mul_sub, Int.sub_mul]; omega
  rw [h1, hx, hy, Int.mul_add, Int.mul_assoc, Int.mul_left_comm]
/-! Functions whose differences vanish. -/
def Van : Nat → (Nat → Int) → Prop
  | 0, f => ∀ t, f t = 0
  | n + 1, f => Van n fun t => f (t + 1) - f t
theorem van_zero : ∀ (n : Nat) (f : Nat → Int), (∀ t, f t = 0) → Van n f
  | 0, _, h => h
  | n + 1, f, h => van_zero n _ fun t => by rw [h, h]; rfl
theorem van_succ : ∀ (n : Nat) (f : Nat → Int), Van n f → Van (n + 1) f
  | 0, f, h => van_zero 1 f h
  | n + 1, f, h => van_succ n (fun t => f (t + 1) - f t) h
theorem van_le {m n : Nat} (h : m ≤ n) {f : Nat → Int} (hf : Van m f) : Van n f := by
  induction h with
  | refl => exact hf
  | step _ ih => exact van_succ _ _ ih
theorem van_add : ∀ (n : Nat) (f g : Nat → Int), Van n f → Van n g → Van n fun t => f t + g t
  | 0, f, g, hf, hg => fun t => by show f t + g t = 0; rw [hf t, hg t]; rfl
  | n + 1, f, g, hf, hg => by
    have := van_add n _ _ hf hg
    show Van n fun t => (f (t + 1) + g (t + 1)) - (f t + g t)
    have e : (fun t => (f (t + 1) + g (t + 1)) - (f t + g t)) = fun t => (f (t + 1) - f t) + (g (t + 1) - g t) := by funext t; omega
    rw [e]; exact this
theorem van_sub : ∀ (n : Nat) (f g : Nat → Int), Van n f → Van n g → Van n fun t => f t - g t
  | 0, f, g, hf, hg => fun t => by show f t - g t = 0; rw [hf t, hg t]; rfl
  | n + 1, f, g, hf, hg => by
    have := van_sub n _ _ hf hg
    show Van n fun t => (f (t + 1) - g (t + 1)) - (f t - g t)
    have e : (fun t => (f (t + 1) - g (t + 1)) - (f t - g t)) = fun t => (f (t + 1) - f t) - (g (t + 1) - g t) := by funext t; omega
    rw [e]; exact this
theorem van_shift : ∀ (n : Nat) (f : Nat → Int), Van n f → Van n fun t => f (t + 1)
  | 0, f, h => fun t => h (t + 1)
  | n + 1, f, h => van_shift n (fun t => f (t + 1) - f t) h
theorem van_mul : ∀ (n a b : Nat) (f g : Nat → Int), a + b = n → Van (a + 1) f → Van (b + 1) g → Van (n + 1) fun t => f t * g t
  | n, a, b, f, g, hn, hf, hg => by
    show Van n fun t => f (t + 1) * g (t + 1) - f t * g t
    have e : (fun t => f (t + 1) * g (t + 1) - f t * g t) = fun t => f (t + 1) * (g (t + 1) - g t) + (f (t + 1) - f t) * g t := by
      funext t; rw [Int.mul_sub, Int.sub_mul]; omega
    rw [e]
    refine van_add n _ _ ?_ ?_
    · cases b with
      | zero =>
        have hg' : ∀ t, g (t + 1) - g t = 0 := hg
        exact van_zero n _ fun t => by rw [hg' t, Int.mul_zero]
      | succ b =>
        cases n with
        | zero => omega
        | succ n => exact van_mul n a b (fun t => f (t + 1)) (fun t => g (t + 1) - g t) (by omega) (van_shift _ _ hf) hg
    · cases a with
      | zero =>
        have hf' : ∀ t, f (t + 1) - f t = 0 := hf
        exact van_zero n _ fun t => by rw [hf' t, Int.zero_mul]
      | succ a =>
        cases n with
        | zero => omega
        | succ n => exact van_mul n a b (fun t => f (t + 1) - f t) g (by omega) hf hg
/-! The exact values. -/
def opsZ : Ops := ⟨id, (· + ·), (· - ·), (· * ·), fun _ _ => 0⟩
def inpZ (fr by' : List Int) (t : Nat) : List Int := (List.range fr.length).map fun i => fr.getD i 0 + (t : Int) * by'.getD i 0
theorem van_inp (fr by' : List Int) (i : Nat) : Van 2 fun t => (inpZ fr by' t).getD i 0 := by
  by_cases h : i < fr.length
  · have e : (fun t : Nat => (inpZ fr by' t).getD i 0) = fun t : Nat => fr.getD i 0 + (t : Int) * by'.getD i 0 := by
      funext t
      simp [inpZ, List.getD, h]
    rw [e]
    show ∀ t : Nat, _ = (0 : Int)
    intro t
    generalize by'.getD i 0 = b
    have e1 : ((t + 1 + 1 : Nat) : Int) * b = (t : Int) * b + b + b := by
      rw [show ((t + 1 + 1 : Nat) : Int) = (t : Int) + 1 + 1 from by omega, Int.add_mul, Int.add_mul, Int.one_mul]
    have e2 : ((t + 1 : Nat) : Int) * b = (t : Int) * b + b := by
      rw [show ((t + 1 : Nat) : Int) = (t : Int) + 1 from by omega, Int.add_mul, Int.one_mul]
    show fr.getD i 0 + ((t + 1 + 1 : Nat) : Int) * b - (fr.getD i 0 + ((t + 1 : Nat) : Int) * b) - (fr.getD i 0 + ((t + 1 : Nat) : Int) * b - (fr.getD i 0 + (t : Int) * b)) = 0
    rw [e1, e2]
    omega
  · refine van_zero 2 _ fun t => ?_
    simp [inpZ, List.getD, h]
def okDeg (d : Int) : Prop := 0 ≤ d ∧ d ≤ 1073741824
theorem van_val (fr by' : List Int) (dout : List Int) (outs : Nat → List Int) (nr : Nat) (x : Ins) (hd : ∀ i : Nat, okDeg (dout.getD i 0)) (ho : ∀ i : Nat, Van ((dout.getD i 0).toNat + 1) fun t => (outs t).getD i 0) :
    0 ≤ deg1 dout x ∧ Van ((deg1 dout x).toNat + 1) fun t => valR opsZ (inpZ fr by' t) (outs t) nr x := by
  have ha := hd x.a.toNat
  have hb := hd x.b.toNat
  have va := ho x.a.toNat
  have vb := ho x.b.toNat
  unfold okDeg at ha hb
  unfold deg1 valR
  generalize dout.getD x.a.toNat 0 = da at *
  generalize dout.getD x.b.toNat 0 = db at *
  by_cases h1 : x.op = 1
  · simp -implicitDefEqProofs only [h1, if_true]
    exact ⟨by omega, van_inp fr by' _⟩
  by_cases h2 : x.op = 2
  · have h34 : ¬ (x.op = 3 ∨ x.op = 4) := by omega
    simp -implicitDefEqProofs only [h1, h34, show ¬ x.op = 5 by omega, show ¬ x.op = 6 by omega, h2, if_true, if_false]
    refine ⟨Int.le_refl _, ?_⟩
    show ∀ t : Nat, _ = (0 : Int)
    intro t
    exact Int.sub_self _
  by_cases h3 : x.op = 3
  · simp -implicitDefEqProofs only [h1, h2, h3, true_or, if_true, if_false]
    refine ⟨by omega, van_add _ _ _ (van_le (by omega) va) (van_le (by omega) vb)⟩
  by_cases h4 : x.op = 4
  · simp -implicitDefEqProofs only [h1, h2, h3, h4, or_true, if_true, if_false]
    refine ⟨by omega, van_sub _ _ _ (van_le (by omega) va) (van_le (by omega) vb)⟩
  have h34 : ¬ (x.op = 3 ∨ x.op = 4) := by omega
  by_cases h5 : x.op = 5
  · simp -implicitDefEqProofs only [h1, h2, h34, h3, h4, h5, if_true, if_false]
    have hw : W64 (da + db) = da + db := w64_in _ (by omega) (by omega)
    rw [hw]
    refine ⟨by omega, ?_⟩
    have := van_mul (da.toNat + db.toNat) da.toNat db.toNat _ _ rfl va vb
    exact van_le (by omega) this
  by_cases h6 : x.op = 6
  · simp -implicitDefEqProofs only [h1, h2, h34, h3, h4, h5, h6, if_true, if_false]
    have hw1 : W64 (da + 1) = da + 1 := w64_in _ (by omega) (by omega)
    have hq : 0 ≤ (da + 1).tdiv 2 ∧ (da + 1).tdiv 2 ≤ da + 1 := by
      rw [Int.tdiv_eq_ediv_of_nonneg (by omega)]
      omega
    have hw2 : W64 ((da + 1).tdiv 2) = (da + 1).tdiv 2 := w64_in _ (by omega) (by omega)
    rw [hw1, hw2]
    exact ⟨hq.1, van_zero _ _ fun t => rfl⟩
  · simp -implicitDefEqProofs only [h1, h2, h34, h3, h4, h5, h6, if_false]
    exact ⟨Int.le_refl _, van_zero _ _ fun t => rfl⟩
theorem getD_snoc (l : List Int) (v : Int) (i : Nat) : (l ++ [v]).getD i 0 = if i = l.length then v else l.getD i 0 := by
  by_cases h : i < l.length
  · rw [if_neg (by omega)]
    simp [List.getD, List.getElem?_append_left h]
  · by_cases h2 : i = l.length
    · rw [if_pos h2]; subst h2; simp [List.getD]
    · rw [if_neg h2]
      simp -implicitDefEqProofs only [List.getD]
      rw [List.getElem?_eq_none (by simp; omega), List.getElem?_eq_none (by omega)]
theorem van_run (fr by' : List Int) : ∀ (xs : List Ins) (nr : Nat) (dout l : List Int) (outs : Nat → List Int), degs xs dout = some l → (∀ t, (outs t).length = dout.length) → (∀ i : Nat, okDeg (dout.getD i 0)) → (∀ i : Nat, Van ((dout.getD i 0).toNat + 1) fun t => (outs t).getD i 0) →
    ∀ i : Nat, 0 ≤ l.getD i 0 ∧ Van ((l.getD i 0).toNat + 1) fun t => (runR opsZ (inpZ fr by' t) xs nr (outs t)).getD i 0
  | [], nr, dout, l, outs, h, hl, hd, ho => by
    simp -implicitDefEqProofs only [degs, Option.some.injEq] at h
    subst h
    exact fun i => ⟨(hd i).1, ho i⟩
  | x :: xs, nr, dout, l, outs, h, hl, hd, ho => by
    simp -implicitDefEqProofs only [degs] at h
    split at h
    · cases h
    · rename_i hbig
      obtain ⟨hd1, hv1⟩ := van_val fr by' dout outs nr x hd ho
      refine van_run fr by' xs (nextR x nr) (dout ++ [deg1 dout x]) l (fun t => outs t ++ [valR opsZ (inpZ fr by' t) (outs t) nr x]) h (fun t => by simp [hl]) (fun i => ?_) (fun i => ?_)
      · rw [getD_snoc]
        split
        · exact ⟨hd1, by omega⟩
        · exact hd i
      · rw [getD_snoc]
        have e : (fun t => (outs t ++ [valR opsZ (inpZ fr by' t) (outs t) nr x]).getD i 0) = fun t => if i = dout.length then valR opsZ (inpZ fr by' t) (outs t) nr x else (outs t).getD i 0 := by
          funext t; rw [getD_snoc, hl]
        rw [e]
        split
        · exact hv1
        · exact ho i
/-! The wrapped values are the exact ones modulo 2^64. -/
def CgL (v w : List Int) : Prop := v.length = w.length ∧ ∀ i : Nat, Cg (v.getD i 0) (w.getD i 0)
theorem cg_run (inp inz : List Int) (hi : ∀ i : Nat, Cg (inp.getD i 0) (inz.getD i 0)) : ∀ (xs : List Ins) (nr : Nat) (v w : List Int), (∀ x, x ∈ xs → x.op ≠ 6) → CgL v w → CgL (runR (opsM 0 0) inp xs nr v) (runR opsZ inz xs nr w)
  | [], _, _, _, _, h => h
  | x :: xs, nr, v, w, hx, h => by
    simp -implicitDefEqProofs only [runR]
    refine cg_run inp inz hi xs _ _ _ (fun y hy => hx y (List.mem_cons_of_mem _ hy)) ⟨by simp [h.1], fun i => ?_⟩
    rw [getD_snoc, getD_snoc, h.1]
    split
    · have red : ∀ n, redI 0 n = n := fun n => by simp [redI]
      have h6 := hx x (List.mem_cons_self ..)
      unfold valR
      simp -implicitDefEqProofs only [opsM, opsZ, addI, subI, mulI, red, h6, if_false, id]
      split
      · exact hi _
      split
      · exact .refl _
      split
      · exact (w64_cg _).trans (.add (h.2 _) (h.2 _))
      split
      · exact (w64_cg _).trans (.sub (h.2 _) (h.2 _))
      split
      · exact (w64_cg _).trans (.mul (h.2 _) (h.2 _))
      · exact .refl _
    · exact h.2 i
/-- The differences of the exact values. -/
def Df (f : Nat → Int) : Nat → Nat → Int
  | 0, t => f t
  | k + 1, t => Df f k (t + 1) - Df f k t
theorem van_df : ∀ (n : Nat) (f : Nat → Int), Van n f → ∀ t, Df f n t = 0 := by
  have step : ∀ (k : Nat) (f : Nat → Int) (t : Nat), Df f (k + 1) t = Df (fun t => f (t + 1) - f t) k t := by
    intro k
    induction k with
    | zero => intro f t; rfl
    | succ k ih =>
      intro f t
      show Df f (k + 1) (t + 1) - Df f (k + 1) t = _
      rw [ih, ih]
      rfl
  intro n
  induction n with
  | zero => intro f h t; exact h t
  | succ n ih => intro f h t; rw [step]; exact ih _ h t
theorem dk_get (V : Nat → List Int) (n : Nat) (hV : ∀ t, (V t).length = n) (i : Nat) (hi : i < n) (k t : Nat) : (Dk V (k + 1) t).getD i 0 = W64 ((Dk V k (t + 1)).getD i 0 - (Dk V k t).getD i 0) := by
  have l1 : i < (Dk V k t).length := by rw [Dk_len V n hV]; exact hi
  have l2 : i < (Dk V k (t + 1)).length := by rw [Dk_len V n hV]; exact hi
  show (List.zipWith (fun x y => W64 (y - x)) (Dk V k t) (Dk V k (t + 1))).getD i 0 = _
  simp -implicitDefEqProofs only [List.getD]
  rw [List.getElem?_eq_getElem (by simp; omega), List.getElem?_eq_getElem l1, List.getElem?_eq_getElem l2, List.getElem_zipWith]
  rfl
theorem dk_cg (V : Nat → List Int) (n : Nat) (hV : ∀ t, (V t).length = n) (f : Nat → Int) (i : Nat) (hi : i < n) (hc : ∀ t, Cg ((V t).getD i 0) (f t)) : ∀ k t, Cg ((Dk V k t).getD i 0) (Df f k t)
  | 0, t => hc t
  | k + 1, t => by
    have h1 := dk_cg V n hV f i hi hc k t
    have h2 := dk_cg V n hV f i hi hc k (t + 1)
    have e := dk_get V n hV i hi k t
    rw [e]
    exact (w64_cg _).trans (h2.sub h1)
theorem scan_nx (roots : List Int) (inputs : Int) : ∀ (xs : List Ins) (i nx m : Nat), scan roots inputs xs i nx = some m → nx ≤ m ∧ ((∃ x, x ∈ xs ∧ x.op = 6) → nx < m)
  | [], _, nx, m, h => by
    simp -implicitDefEqProofs only [scan, Option.some.injEq] at h
    exact ⟨by omega, fun ⟨x, hx, _⟩ => by cases hx⟩
  | x :: xs, i, nx, m, h => by
    simp -implicitDefEqProofs only [scan] at h
    split at h
    · split at h
      · split at h
        · have := (scan_nx roots inputs xs _ _ m h).1
          exact ⟨by omega, fun _ => by omega⟩
        · cases h
      · rename_i h6
        have := scan_nx roots inputs xs _ _ m h
        refine ⟨this.1, fun ⟨y, hy, h7⟩ => this.2 ?_⟩
        rcases List.mem_cons.1 hy with rfl | hy
        · exact absurd h7 h6
        · exact ⟨y, hy, h7⟩
    · cases h
/-- The differences beyond the degree vanish. -/
theorem degs_len : ∀ (xs : List Ins) (out l : List Int), degs xs out = some l → l.length = out.length + xs.length
  | [], out, l, h => by
    simp -implicitDefEqProofs only [degs, Option.some.injEq] at h
    simp [← h]
  | x :: xs, out, l, h => by
    simp -implicitDefEqProofs only [degs] at h
    split at h
    · cases h
    · have := degs_len xs _ _ h
      simp at this ⊢
      omega
theorem cg_inp (fr by' : List Int) (t i : Nat) : Cg ((inpOf fr by' t).getD i 0) ((inpZ fr by' t).getD i 0) := by
  by_cases h : i < fr.length
  · have e1 : (inpOf fr by' t).getD i 0 = W64 (fr.getD i 0 + W64 ((t : Int) * by'.getD i 0)) := by simp [inpOf, List.getD, h]
    have e2 : (inpZ fr by' t).getD i 0 = fr.getD i 0 + (t : Int) * by'.getD i 0 := by simp [inpZ, List.getD, h]
    rw [e1, e2]
    exact (w64_cg _).trans (.add (.refl _) (w64_cg _))
  · have e1 : (inpOf fr by' t).getD i 0 = 0 := by simp [inpOf, List.getD, h]
    have e2 : (inpZ fr by' t).getD i 0 = 0 := by simp [inpZ, List.getD, h]
    rw [e1, e2]
    exact .refl _
theorem degree_holds (p : Prog) (fr by' D : List Int) (hc : p.check = 0) (hr : p.roots.length = 0) (hd : degs p.ins [] = some D) (k i : Nat) (hi : i < p.ins.length) (hlt : D.getD i 0 < ((k + 1 : Nat) : Int)) :
    (Dk (fun t => runR (opsM 0 0) (inpOf fr by' t) p.ins 0 []) (k + 1) 0).getD i 0 = 0 := by
  have hV : ∀ t, (runR (opsM 0 0) (inpOf fr by' t) p.ins 0 []).length = p.ins.length := fun t => by rw [runR_len]; simp
  have hs := (check0 hc).2.2.1
  rw [hr] at hs
  have h6 : ∀ x, x ∈ p.ins → x.op ≠ 6 := fun x hx e => by
    have := (scan_nx _ _ _ _ _ _ hs).2 ⟨x, hx, e⟩
    omega
  have hv := van_run fr by' p.ins 0 [] D (fun _ => []) hd (fun _ => rfl) (fun i => by simp [okDeg]) (fun i => van_zero _ _ fun t => by simp) i
  have hz := van_df (k + 1) _ (van_le (by omega) hv.2) 0
  have hcg := fun t => (cg_run (inpOf fr by' t) (inpZ fr by' t) (cg_inp fr by' t) p.ins 0 [] [] h6 ⟨rfl, fun _ => .refl _⟩).2 i
  have hd := dk_cg (fun t => runR (opsM 0 0) (inpOf fr by' t) p.ins 0 []) p.ins.length hV (fun t => (runR opsZ (inpZ fr by' t) p.ins 0 []).getD i 0) i hi hcg (k + 1) 0
  rw [hz] at hd
  have e : ∃ q, (Dk (fun t => runR (opsM 0 0) (inpOf fr by' t) p.ins 0 []) (k + 1) 0).getD i 0 = W64 q := ⟨_, dk_get _ _ hV i hi k 0⟩
  obtain ⟨q, hq⟩ := e
  rw [hq] at hd ⊢
  refine w64_zero q ?_
  have := w64_cg q
  unfold Cg at *
  omega
end Go.AbY
end
section
namespace Go.AbY
open Go.Ab
variable (G : Nat → AV) (X : Nat → List AV → St → Res)
set_option linter.unusedSimpArgs false
set_option linter.unusedVariables false
theorem f5_ok (p : Prog) (fr by' : List Int) (gf gb : Gr) (s : St) (hv : p.vals.length ≤ 9223372036854775807) (hvv : ∀ v, v ∈ p.vals → v.1.length ≤ 9223372036854775807) (hr : p.enc.refless = true) (h6 : ∃ s', callω T1 G X 6 [] { own := [], up := [], ro := [] } = .ok (.bool true) s') :
    callω T1 G X 5 [p.enc, sl1 fr gf, sl1 by' gb] s = .ok (.bool true) s := by
  obtain ⟨s6, h6⟩ := h6
  rw [f5_call, f5_eq]
  have h11 := f11_ok G X p s.enter hv hvv
  simp -implicitDefEqProofs only [Prog.enc, Prog.cs] at h11
  simp -implicitDefEqProofs only [Prog.enc, Prog.cs, sl1, ↓z_ret, ↓z_val, ↓z_pick, ↓z_cond, ↓z_boxRo_agg, ↓z_boxRo_int, ↓z_boxRo_bool, ↓z_boxRo_str, ↓z_boxRo_sl, ↓z_boxRo_fn, ↓z_boxRo_vptr, ↓z_boxRo_ref, ↓z_len_sl, ↓z_len_msl, ↓z_len_str, ↓z_load1, ↓z_fa, ↓z_fa_ref, ↓z_callF, ↓z_andK, ↓z_orK, ↓z_and1, ↓z_and2, ↓z_and3, ↓z_and4, ↓z_and5, ↓z_and6, ↓z_and7, ↓z_and8, ↓z_and9, ↓z_and10, ↓z_and11, ↓z_and12, ↓z_or1, ↓z_or2, ↓z_or3, ↓z_or4, ↓z_or5, ↓z_or6, ↓z_or7, ↓z_or8, ↓z_or9, ↓z_or10, ↓z_or11, ↓z_or12, ↓z_add, ↓z_sub, ↓z_mul, ↓z_eql, ↓z_neq, ↓z_lss, ↓z_leq, ↓z_gtr, ↓z_geq, ↓z_not, ↓z_neg, ↓z_fin_int, ↓z_fin_bool, ↓z_fin_str, ↓z_ent_int, ↓z_ent_bool, ↓z_ent_str, ↓z_stn, ↓z_ldnn, ↓z_ldn0, ↓z_ldn1, ↓z_ldn2, ↓z_ldn3, ↓z_ldn4, ↓z_ldn5, ↓z_ldn6, ↓z_ldn7, ↓z_ldn8, List.drop_zero, List.drop_succ_cons, List.cons_append, List.nil_append, decide_eq_true_eq, decide_eq_false_iff_not, ite_not, ↓reduceIte, pub_agg, pub_int, pub_bool, pub_str, pub_fn, pub_vptr, pub_nilp, Nat.zero_add, List.length_cons, List.length_nil, Nat.reduceAdd, List.all_cons, List.all_nil, isCell_int, isCell_bool, isCell_str, isCell_sl, Bool.and_self, ↓z_loadn, Nat.reduceLeDiff, Nat.le_refl, List.take_succ_cons, List.take_zero, z_callP rfl h6 rfl, z_call0 h11, List.length_map]
  by_cases hc : p.check = 0
  rotate_left
  · simp -implicitDefEqProofs only [degA, eq_false hc, if_false, ↓z_ext0, ↓z_ext1, ↓z_ret, ↓z_val, ↓z_pick, ↓z_cond, ↓z_boxRo_agg, ↓z_boxRo_int, ↓z_boxRo_bool, ↓z_boxRo_str, ↓z_boxRo_sl, ↓z_boxRo_fn, ↓z_boxRo_vptr, ↓z_boxRo_ref, ↓z_len_sl, ↓z_len_msl, ↓z_len_str, ↓z_load1, ↓z_fa, ↓z_fa_ref, ↓z_callF, ↓z_andK, ↓z_orK, ↓z_and1, ↓z_and2, ↓z_and3, ↓z_and4, ↓z_and5, ↓z_and6, ↓z_and7, ↓z_and8, ↓z_and9, ↓z_and10, ↓z_and11, ↓z_and12, ↓z_or1, ↓z_or2, ↓z_or3, ↓z_or4, ↓z_or5, ↓z_or6, ↓z_or7, ↓z_or8, ↓z_or9, ↓z_or10, ↓z_or11, ↓z_or12, ↓z_add, ↓z_sub, ↓z_mul, ↓z_eql, ↓z_neq, ↓z_lss, ↓z_leq, ↓z_gtr, ↓z_geq, ↓z_not, ↓z_neg, ↓z_fin_int, ↓z_fin_bool, ↓z_fin_str, ↓z_ent_int, ↓z_ent_bool, ↓z_ent_str, ↓z_stn, ↓z_ldnn, ↓z_ldn0, ↓z_ldn1, ↓z_ldn2, ↓z_ldn3, ↓z_ldn4, ↓z_ldn5, ↓z_ldn6, ↓z_ldn7, ↓z_ldn8, List.drop_zero, List.drop_succ_cons, List.cons_append, List.nil_append, decide_eq_true_eq, decide_eq_false_iff_not, ite_not, ↓reduceIte, pub_agg, pub_int, pub_bool, pub_str, pub_fn, pub_vptr, pub_nilp, Nat.zero_add, List.length_cons, List.length_nil, Nat.reduceAdd, List.all_cons, List.all_nil, isCell_int, isCell_bool, isCell_str, isCell_sl, Bool.and_self, ↓z_loadn, Nat.reduceLeDiff, Nat.le_refl, List.take_succ_cons, List.take_zero, not_false_eq_true, decide_true, z_finC_bool (.enter s)]
  cases hd : degs p.ins [] with
  | none => simp -implicitDefEqProofs only [degA, degR, hd, eq_true hc, if_true, ↓z_ext0, ↓z_ext1, ↓z_ret, ↓z_val, ↓z_pick, ↓z_cond, ↓z_boxRo_agg, ↓z_boxRo_int, ↓z_boxRo_bool, ↓z_boxRo_str, ↓z_boxRo_sl, ↓z_boxRo_fn, ↓z_boxRo_vptr, ↓z_boxRo_ref, ↓z_len_sl, ↓z_len_msl, ↓z_len_str, ↓z_load1, ↓z_fa, ↓z_fa_ref, ↓z_callF, ↓z_andK, ↓z_orK, ↓z_and1, ↓z_and2, ↓z_and3, ↓z_and4, ↓z_and5, ↓z_and6, ↓z_and7, ↓z_and8, ↓z_and9, ↓z_and10, ↓z_and11, ↓z_and12, ↓z_or1, ↓z_or2, ↓z_or3, ↓z_or4, ↓z_or5, ↓z_or6, ↓z_or7, ↓z_or8, ↓z_or9, ↓z_or10, ↓z_or11, ↓z_or12, ↓z_add, ↓z_sub, ↓z_mul, ↓z_eql, ↓z_neq, ↓z_lss, ↓z_leq, ↓z_gtr, ↓z_geq, ↓z_not, ↓z_neg, ↓z_fin_int, ↓z_fin_bool, ↓z_fin_str, ↓z_ent_int, ↓z_ent_bool, ↓z_ent_str, ↓z_stn, ↓z_ldnn, ↓z_ldn0, ↓z_ldn1, ↓z_ldn2, ↓z_ldn3, ↓z_ldn4, ↓z_ldn5, ↓z_ldn6, ↓z_ldn7, ↓z_ldn8, List.drop_zero, List.drop_succ_cons, List.cons_append, List.nil_append, decide_eq_true_eq, decide_eq_false_iff_not, ite_not, ↓reduceIte, pub_agg, pub_int, pub_bool, pub_str, pub_fn, pub_vptr, pub_nilp, Nat.zero_add, List.length_cons, List.length_nil, Nat.reduceAdd, List.all_cons, List.all_nil, isCell_int, isCell_bool, isCell_str, isCell_sl, Bool.and_self, ↓z_loadn, Nat.reduceLeDiff, Nat.le_refl, List.take_succ_cons, List.take_zero, decide_true, z_finC_bool (.enter s), show ¬ ((2 : Int) = 0) from by decide, if_false]
  | some D =>
    have hDl := degs_len _ _ _ hd
    have hD : D.length = p.ins.length := by simpa using hDl
    have hi := (check0 hc)
    have hin : 0 ≤ p.inputs ∧ p.inputs ≤ 20 := by
      have h := hc
      unfold Prog.check at h
      split at h
      · cases h
      · omega
    simp -implicitDefEqProofs only [degA, degR, hd, eq_true hc, if_true, ↓z_ext0, ↓z_ext1, ↓z_ret, ↓z_val, ↓z_pick, ↓z_cond, ↓z_boxRo_agg, ↓z_boxRo_int, ↓z_boxRo_bool, ↓z_boxRo_str, ↓z_boxRo_sl, ↓z_boxRo_fn, ↓z_boxRo_vptr, ↓z_boxRo_ref, ↓z_len_sl, ↓z_len_msl, ↓z_len_str, ↓z_load1, ↓z_fa, ↓z_fa_ref, ↓z_callF, ↓z_andK, ↓z_orK, ↓z_and1, ↓z_and2, ↓z_and3, ↓z_and4, ↓z_and5, ↓z_and6, ↓z_and7, ↓z_and8, ↓z_and9, ↓z_and10, ↓z_and11, ↓z_and12, ↓z_or1, ↓z_or2, ↓z_or3, ↓z_or4, ↓z_or5, ↓z_or6, ↓z_or7, ↓z_or8, ↓z_or9, ↓z_or10, ↓z_or11, ↓z_or12, ↓z_add, ↓z_sub, ↓z_mul, ↓z_eql, ↓z_neq, ↓z_lss, ↓z_leq, ↓z_gtr, ↓z_geq, ↓z_not, ↓z_neg, ↓z_fin_int, ↓z_fin_bool, ↓z_fin_str, ↓z_ent_int, ↓z_ent_bool, ↓z_ent_str, ↓z_stn, ↓z_ldnn, ↓z_ldn0, ↓z_ldn1, ↓z_ldn2, ↓z_ldn3, ↓z_ldn4, ↓z_ldn5, ↓z_ldn6, ↓z_ldn7, ↓z_ldn8, List.drop_zero, List.drop_succ_cons, List.cons_append, List.nil_append, decide_eq_true_eq, decide_eq_false_iff_not, ite_not, ↓reduceIte, pub_agg, pub_int, pub_bool, pub_str, pub_fn, pub_vptr, pub_nilp, Nat.zero_add, List.length_cons, List.length_nil, Nat.reduceAdd, List.all_cons, List.all_nil, isCell_int, isCell_bool, isCell_str, isCell_sl, Bool.and_self, ↓z_loadn, Nat.reduceLeDiff, Nat.le_refl, List.take_succ_cons, List.take_zero, not_true_eq_false, decide_false, Bool.false_eq_true, List.length_map]
    by_cases c1 : (p.roots.length : Int) > 0
    · simp -implicitDefEqProofs only [eq_true c1, decide_true, if_true, z_finC_bool (.enter s)]
    by_cases c2 : (fr.length : Int) = p.inputs
    rotate_left
    · simp -implicitDefEqProofs only [eq_false c1, eq_false c2, not_false_eq_true, decide_true, decide_false, Bool.false_eq_true, if_true, if_false, z_finC_bool (.enter s)]
    by_cases c3 : (by'.length : Int) = p.inputs
    rotate_left
    · simp -implicitDefEqProofs only [eq_false c1, eq_true c2, eq_false c3, not_true_eq_false, not_false_eq_true, decide_true, decide_false, Bool.false_eq_true, if_true, if_false, z_finC_bool (.enter s)]
    by_cases c4 : (p.ins.length : Int) > 400
    · simp -implicitDefEqProofs only [eq_false c1, eq_true c2, eq_true c3, eq_true c4, not_true_eq_false, not_false_eq_true, decide_true, decide_false, Bool.false_eq_true, if_true, if_false, z_finC_bool (.enter s)]
    simp -implicitDefEqProofs only [eq_false c1, eq_true c2, eq_true c3, eq_false c4, not_true_eq_false, decide_false, Bool.false_eq_true, if_false]
    rw [f5_j1_eq _ (PP_ok _ _ _)]
    exact f5_l2_ok G X s p fr by' gf gb D .exact (by omega) (by omega) c2 hc hD hv hvv (fun k hk i hi hlt => degree_holds p fr by' D hc (by omega) hd k i hi hlt) 14 0 (by omega) s.enter (fun _ => 0) .nil (.enter s) ⟨fun t h => by omega, fun t h => by omega, fun t u h => by omega⟩ (.inl ⟨rfl, rfl⟩)
end Go.AbY
end
