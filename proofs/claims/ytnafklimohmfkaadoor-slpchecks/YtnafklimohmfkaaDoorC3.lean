/- The contracts of some functions of the program, as the abstract evaluator runs them: for every argument that their texts name. -/
import Derived.Test.YtnafklimohmfkaaDoorC2
import Derived.Test.YtnafklimohmfkaaDoorSy2
namespace Go.AbD
open Go.Ab
variable (G : Nat → AV) (X : Nat → List AV → St → Res)
set_option linter.unusedSimpArgs false
set_option linter.unusedVariables false
abbrev W64 (n : Int) : Int := IntKind.wrap .i64 n
/-- The degree of an instruction, by those before it. -/
def deg1 (out : List Int) (x : Ins) : Int :=
  if x.op = 1 then 1
  else if x.op = 3 ∨ x.op = 4 then max (out.getD x.a.toNat 0) (out.getD x.b.toNat 0)
  else if x.op = 5 then W64 (out.getD x.a.toNat 0 + out.getD x.b.toNat 0)
  else if x.op = 6 then W64 ((W64 (out.getD x.a.toNat 0 + 1)).tdiv 2)
  else 0
def degs : List Ins → List Int → Option (List Int)
  | [], out => some out
  | x :: xs, out => if 1073741824 < deg1 out x then none else degs xs (out ++ [deg1 out x])
/-- Every instruction names earlier registers. -/
def okArgs : List Ins → Nat → Bool
  | [], _ => true
  | x :: xs, i => (if x.op = 3 ∨ x.op = 4 ∨ x.op = 5 then decide ((0 ≤ x.a ∧ x.a < (i : Int)) ∧ (0 ≤ x.b ∧ x.b < (i : Int))) else if x.op = 6 then decide (0 ≤ x.a ∧ x.a < (i : Int)) else true) && okArgs xs (i + 1)
theorem okArgs_scan (roots : List Int) (inputs : Int) : ∀ (xs : List Ins) (i nx m : Nat), scan roots inputs xs i nx = some m → okArgs xs i = true
  | [], _, _, _, _ => rfl
  | x :: xs, i, nx, m, h => by
    simp -implicitDefEqProofs only [scan] at h
    split at h
    · rename_i hok
      have hx : (if x.op = 3 ∨ x.op = 4 ∨ x.op = 5 then decide ((0 ≤ x.a ∧ x.a < (i : Int)) ∧ (0 ≤ x.b ∧ x.b < (i : Int))) else if x.op = 6 then decide (0 ≤ x.a ∧ x.a < (i : Int)) else true) = true := by
        unfold okIns at hok
        grind
      simp -implicitDefEqProofs only [okArgs, hx, Bool.true_and]
      split at h
      · split at h
        · exact okArgs_scan roots inputs xs _ _ m h
        · cases h
      · exact okArgs_scan roots inputs xs _ _ m h
    · cases h
theorem max_if (a b : Int) : (if b > a then b else a) = max a b := by split <;> omega

theorem gfin_map {α β : Type} (f : α → β) (l : List α) : gfin (l.map f) = gfin l := by cases l <;> rfl
/-- What Degree hands back. -/
def degR (r : Option (List Int)) (g : List Int → Gr) : AV :=
  match r with
  | none => .tup [.sl 1 [] .nil, I 2]
  | some l => .tup [sl1 l (g l), I 0]

theorem idx_out (out : List Int) (g : Gr) (a : Int) (h0 : 0 ≤ a) (h1 : a < (out.length : Int)) (k : K1) (S : St) : (PP T1 G X).idx S k 1 (.sl 1 (out.map I) g) (.int .i64 a) = k (.vptr [I (out.getD a.toNat 0)]) S := by
  have : a.toNat < out.length := by omega
  exact z_idxI 1 (out.map I) g .i64 a (I (out.getD a.toNat 0)) h0 (by simp [List.getD, this])
theorem f12_step (p : Prog) (xs : List Ins) (s : St) (i : Nat) (x : Ins) (out : List Int) (ho : out.length = i) (hi : i < 8192) (S : St) (g : Gr) (hS : Child s S) (hg : Grow S g out.length)
    (ih : ∀ d S' g', Child s S' → Grow S' g' (out ++ [d]).length → f12_l2 (PP T1 G X) (.vptr p.cs) (.sl 1 ((out ++ [d]).map I) g') (.int .i64 ((i + 1 : Nat) : Int)) S' = .ok (degR (degs xs (out ++ [d])) gfin) s) (d : Int) (hd : d = deg1 out x) :
    f12_j4 (PP T1 G X) (.vptr p.cs) (.sl 1 (out.map I) g) (.int .i64 (i : Int)) (I d) S = .ok (degR (degs (x :: xs) out) gfin) s := by
  subst hd
  have hw : IntKind.wrap .i64 ((i : Int) + 1) = ((i + 1 : Nat) : Int) := wrap_succ i (by omega)
  simp -implicitDefEqProofs only [degs]
  rw [f12_j4_eq _ (PP_ok _ _ _)]
  by_cases hd : 1073741824 < deg1 out x
  · simp -implicitDefEqProofs only [↓z_ret, ↓z_val, ↓z_pick, ↓z_cond, ↓z_boxRo_agg, ↓z_boxRo_int, ↓z_boxRo_bool, ↓z_boxRo_str, ↓z_boxRo_sl, ↓z_boxRo_fn, ↓z_boxRo_vptr, ↓z_boxRo_ref, ↓z_len_sl, ↓z_len_msl, ↓z_len_str, ↓z_load1, ↓z_fa, ↓z_fa_ref, ↓z_callF, ↓z_andK, ↓z_orK, ↓z_and1, ↓z_and2, ↓z_and3, ↓z_and4, ↓z_and5, ↓z_and6, ↓z_and7, ↓z_and8, ↓z_and9, ↓z_and10, ↓z_and11, ↓z_and12, ↓z_or1, ↓z_or2, ↓z_or3, ↓z_or4, ↓z_or5, ↓z_or6, ↓z_or7, ↓z_or8, ↓z_or9, ↓z_or10, ↓z_or11, ↓z_or12, ↓z_add, ↓z_sub, ↓z_mul, ↓z_eql, ↓z_neq, ↓z_lss, ↓z_leq, ↓z_gtr, ↓z_geq, ↓z_not, ↓z_neg, ↓z_fin_int, ↓z_fin_bool, ↓z_fin_str, ↓z_ent_int, ↓z_ent_bool, ↓z_ent_str, ↓z_stn, ↓z_ldnn, ↓z_ldn0, ↓z_ldn1, ↓z_ldn2, ↓z_ldn3, ↓z_ldn4, ↓z_ldn5, ↓z_ldn6, ↓z_ldn7, ↓z_ldn8, List.drop_zero, List.drop_succ_cons, List.cons_append, List.nil_append, decide_eq_true_eq, decide_eq_false_iff_not, ite_not, ↓reduceIte, pub_agg, pub_int, pub_bool, pub_str, pub_fn, pub_vptr, pub_nilp, Nat.zero_add, List.length_cons, List.length_nil, Nat.reduceAdd, List.all_cons, List.all_nil, isCell_int, isCell_bool, isCell_str, isCell_sl, Bool.and_self, ↓z_loadn, Nat.reduceLeDiff, Nat.le_refl, List.take_succ_cons, List.take_zero, hd, decide_true, if_true]
    exact z_finC2 hS _ _ _ _ rfl rfl
  · simp -implicitDefEqProofs only [↓z_ret, ↓z_val, ↓z_pick, ↓z_cond, ↓z_boxRo_agg, ↓z_boxRo_int, ↓z_boxRo_bool, ↓z_boxRo_str, ↓z_boxRo_sl, ↓z_boxRo_fn, ↓z_boxRo_vptr, ↓z_boxRo_ref, ↓z_len_sl, ↓z_len_msl, ↓z_len_str, ↓z_load1, ↓z_fa, ↓z_fa_ref, ↓z_callF, ↓z_andK, ↓z_orK, ↓z_and1, ↓z_and2, ↓z_and3, ↓z_and4, ↓z_and5, ↓z_and6, ↓z_and7, ↓z_and8, ↓z_and9, ↓z_and10, ↓z_and11, ↓z_and12, ↓z_or1, ↓z_or2, ↓z_or3, ↓z_or4, ↓z_or5, ↓z_or6, ↓z_or7, ↓z_or8, ↓z_or9, ↓z_or10, ↓z_or11, ↓z_or12, ↓z_add, ↓z_sub, ↓z_mul, ↓z_eql, ↓z_neq, ↓z_lss, ↓z_leq, ↓z_gtr, ↓z_geq, ↓z_not, ↓z_neg, ↓z_fin_int, ↓z_fin_bool, ↓z_fin_str, ↓z_ent_int, ↓z_ent_bool, ↓z_ent_str, ↓z_stn, ↓z_ldnn, ↓z_ldn0, ↓z_ldn1, ↓z_ldn2, ↓z_ldn3, ↓z_ldn4, ↓z_ldn5, ↓z_ldn6, ↓z_ldn7, ↓z_ldn8, List.drop_zero, List.drop_succ_cons, List.cons_append, List.nil_append, decide_eq_true_eq, decide_eq_false_iff_not, ite_not, ↓reduceIte, pub_agg, pub_int, pub_bool, pub_str, pub_fn, pub_vptr, pub_nilp, Nat.zero_add, List.length_cons, List.length_nil, Nat.reduceAdd, List.all_cons, List.all_nil, isCell_int, isCell_bool, isCell_str, isCell_sl, Bool.and_self, ↓z_loadn, Nat.reduceLeDiff, Nat.le_refl, List.take_succ_cons, List.take_zero, hd, decide_false, if_false, f12_j5_eq _ (PP_ok _ _ _), z_bs_int]
    refine z_append (by simpa using hg) (by simp) (by simp; omega) (by simp [isCell_int, AV.cells]) fun g' S' hg' _ _ _ hG => ?_
    rw [f12_j6_eq _ (PP_ok _ _ _)]
    simp -implicitDefEqProofs only [↓z_ret, ↓z_val, ↓z_pick, ↓z_cond, ↓z_boxRo_agg, ↓z_boxRo_int, ↓z_boxRo_bool, ↓z_boxRo_str, ↓z_boxRo_sl, ↓z_boxRo_fn, ↓z_boxRo_vptr, ↓z_boxRo_ref, ↓z_len_sl, ↓z_len_msl, ↓z_len_str, ↓z_load1, ↓z_fa, ↓z_fa_ref, ↓z_callF, ↓z_andK, ↓z_orK, ↓z_and1, ↓z_and2, ↓z_and3, ↓z_and4, ↓z_and5, ↓z_and6, ↓z_and7, ↓z_and8, ↓z_and9, ↓z_and10, ↓z_and11, ↓z_and12, ↓z_or1, ↓z_or2, ↓z_or3, ↓z_or4, ↓z_or5, ↓z_or6, ↓z_or7, ↓z_or8, ↓z_or9, ↓z_or10, ↓z_or11, ↓z_or12, ↓z_add, ↓z_sub, ↓z_mul, ↓z_eql, ↓z_neq, ↓z_lss, ↓z_leq, ↓z_gtr, ↓z_geq, ↓z_not, ↓z_neg, ↓z_fin_int, ↓z_fin_bool, ↓z_fin_str, ↓z_ent_int, ↓z_ent_bool, ↓z_ent_str, ↓z_stn, ↓z_ldnn, ↓z_ldn0, ↓z_ldn1, ↓z_ldn2, ↓z_ldn3, ↓z_ldn4, ↓z_ldn5, ↓z_ldn6, ↓z_ldn7, ↓z_ldn8, List.drop_zero, List.drop_succ_cons, List.cons_append, List.nil_append, decide_eq_true_eq, decide_eq_false_iff_not, ite_not, ↓reduceIte, pub_agg, pub_int, pub_bool, pub_str, pub_fn, pub_vptr, pub_nilp, Nat.zero_add, List.length_cons, List.length_nil, Nat.reduceAdd, List.all_cons, List.all_nil, isCell_int, isCell_bool, isCell_str, isCell_sl, Bool.and_self, ↓z_loadn, Nat.reduceLeDiff, Nat.le_refl, List.take_succ_cons, List.take_zero, hw]
    have := ih (deg1 out x) S' g' (hG.child hS) (by simpa using hg')
    rw [List.map_append] at this
    exact this

end Go.AbD
