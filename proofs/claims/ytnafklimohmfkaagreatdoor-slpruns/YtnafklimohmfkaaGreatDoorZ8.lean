/- The contracts of some functions of the program, as the abstract evaluator runs them: for every argument that their texts name. -/
import Derived.Test.YtnafklimohmfkaaGreatDoorZ1
section
namespace Go.AbZ
open Go.Ab
variable (G : Nat → AV) (X : Nat → List AV → St → Res)
set_option linter.unusedSimpArgs false
set_option linter.unusedVariables false
theorem f31_j4_ok (p : Prog) (inp : List Int) (gi : Gr) (m b : Int) (x : Ins) (out : List Int) (g : Gr) (nr : Nat) (S : St) (Res0 : Res)
    (hnr : nr < 9000) (hx : p.ins[out.length]? = some x) (hok : okIns x out.length inp.length = true)
    (hk : f31_j5 (PP T1 G X) (.sl 1 (inp.map I) gi) (.vptr p.cs) (.vptr (rcs m b)) (.sl 1 (out.map I) g) (I (nextR x nr : Nat)) (.int .i64 (out.length : Int)) (I (valR (opsM m b) inp out nr x)) (S.new (.cells [I x.op, I x.a, I x.b])) = Res0) :
    f31_j4 (PP T1 G X) (.sl 1 (inp.map I) gi) (.vptr p.cs) (.vptr (rcs m b)) (.sl 1 (out.map I) g) (.int .i64 (nr : Int)) (.int .i64 (out.length : Int)) S = Res0 := by
  rw [f31_j4_eq _ (PP_ok _ _ _)]
  have ea : (p.ins.map Ins.enc)[out.length]? = some x.enc := by simp [hx]
  have hop := okIns_op hok
  unfold okIns at hok
  simp -implicitDefEqProofs only [Prog.cs, rcs] at hk ⊢
  by_cases h1 : x.op = 1
  · have q1 := eq_true h1
    simp -implicitDefEqProofs only [q1, ↓reduceIte, decide_eq_true_eq] at hok
    have e6 : ¬ x.op = 6 := by omega
    simp -implicitDefEqProofs only [nextR, eq_false e6, valR, q1, if_true, if_false] at hk
    simp -implicitDefEqProofs only [↓z_ret, ↓z_val, ↓z_pick, ↓z_cond, ↓z_boxRo_agg, ↓z_boxRo_int, ↓z_boxRo_bool, ↓z_boxRo_str, ↓z_boxRo_sl, ↓z_boxRo_fn, ↓z_boxRo_vptr, ↓z_boxRo_ref, ↓z_len_sl, ↓z_len_msl, ↓z_len_str, ↓z_load1, ↓z_fa, ↓z_fa_ref, ↓z_callF, ↓z_andK, ↓z_orK, ↓z_and1, ↓z_and2, ↓z_and3, ↓z_and4, ↓z_and5, ↓z_and6, ↓z_and7, ↓z_and8, ↓z_and9, ↓z_and10, ↓z_and11, ↓z_and12, ↓z_or1, ↓z_or2, ↓z_or3, ↓z_or4, ↓z_or5, ↓z_or6, ↓z_or7, ↓z_or8, ↓z_or9, ↓z_or10, ↓z_or11, ↓z_or12, ↓z_add, ↓z_sub, ↓z_mul, ↓z_eql, ↓z_neq, ↓z_lss, ↓z_leq, ↓z_gtr, ↓z_geq, ↓z_not, ↓z_neg, ↓z_fin_int, ↓z_fin_bool, ↓z_fin_str, ↓z_ent_int, ↓z_ent_bool, ↓z_ent_str, ↓z_stn, ↓z_ldnn, ↓z_ldn0, ↓z_ldn1, ↓z_ldn2, ↓z_ldn3, ↓z_ldn4, ↓z_ldn5, ↓z_ldn6, ↓z_ldn7, ↓z_ldn8, List.drop_zero, List.drop_succ_cons, List.cons_append, List.nil_append, decide_eq_true_eq, decide_eq_false_iff_not, ite_not, ↓reduceIte, pub_agg, pub_int, pub_bool, pub_str, pub_fn, pub_vptr, pub_nilp, Nat.zero_add, List.length_cons, List.length_nil, Nat.reduceAdd, List.all_cons, List.all_nil, isCell_int, isCell_bool, isCell_str, isCell_sl, Bool.and_self, ↓z_loadn, Nat.reduceLeDiff, Nat.le_refl, List.take_succ_cons, List.take_zero, z_idx _ _ _ _ _ _ ea, Ins.enc, Ins.cs, AV.cells, q1, decide_true, idx_out G X _ _ _ hok.1 hok.2.1]
    exact hk
  have q1 := eq_false h1
  by_cases h2 : x.op = 2
  · have q2 := eq_true h2
    have e6 : ¬ x.op = 6 := by omega
    simp -implicitDefEqProofs only [nextR, eq_false e6, valR, q1, q2, if_true, if_false] at hk
    simp -implicitDefEqProofs only [↓z_ret, ↓z_val, ↓z_pick, ↓z_cond, ↓z_boxRo_agg, ↓z_boxRo_int, ↓z_boxRo_bool, ↓z_boxRo_str, ↓z_boxRo_sl, ↓z_boxRo_fn, ↓z_boxRo_vptr, ↓z_boxRo_ref, ↓z_len_sl, ↓z_len_msl, ↓z_len_str, ↓z_load1, ↓z_fa, ↓z_fa_ref, ↓z_callF, ↓z_andK, ↓z_orK, ↓z_and1, ↓z_and2, ↓z_and3, ↓z_and4, ↓z_and5, ↓z_and6, ↓z_and7, ↓z_and8, ↓z_and9, ↓z_and10, ↓z_and11, ↓z_and12, ↓z_or1, ↓z_or2, ↓z_or3, ↓z_or4, ↓z_or5, ↓z_or6, ↓z_or7, ↓z_or8, ↓z_or9, ↓z_or10, ↓z_or11, ↓z_or12, ↓z_add, ↓z_sub, ↓z_mul, ↓z_eql, ↓z_neq, ↓z_lss, ↓z_leq, ↓z_gtr, ↓z_geq, ↓z_not, ↓z_neg, ↓z_fin_int, ↓z_fin_bool, ↓z_fin_str, ↓z_ent_int, ↓z_ent_bool, ↓z_ent_str, ↓z_stn, ↓z_ldnn, ↓z_ldn0, ↓z_ldn1, ↓z_ldn2, ↓z_ldn3, ↓z_ldn4, ↓z_ldn5, ↓z_ldn6, ↓z_ldn7, ↓z_ldn8, List.drop_zero, List.drop_succ_cons, List.cons_append, List.nil_append, decide_eq_true_eq, decide_eq_false_iff_not, ite_not, ↓reduceIte, pub_agg, pub_int, pub_bool, pub_str, pub_fn, pub_vptr, pub_nilp, Nat.zero_add, List.length_cons, List.length_nil, Nat.reduceAdd, List.all_cons, List.all_nil, isCell_int, isCell_bool, isCell_str, isCell_sl, Bool.and_self, ↓z_loadn, Nat.reduceLeDiff, Nat.le_refl, List.take_succ_cons, List.take_zero, z_idx _ _ _ _ _ _ ea, Ins.enc, Ins.cs, AV.cells, q1, q2, decide_true, decide_false, Bool.false_eq_true, z_call0 (f18_ok' G X _ _ _ _)]
    exact hk
  have q2 := eq_false h2
  by_cases h3 : x.op = 3
  · have q3 := eq_true h3
    have h3' : x.op = 3 ∨ x.op = 4 ∨ x.op = 5 := by omega
    simp -implicitDefEqProofs only [q1, q2, eq_true h3', ↓reduceIte, decide_eq_true_eq] at hok
    have e6 : ¬ x.op = 6 := by omega
    simp -implicitDefEqProofs only [nextR, eq_false e6, valR, q1, q2, q3, if_true, if_false] at hk
    simp -implicitDefEqProofs only [↓z_ret, ↓z_val, ↓z_pick, ↓z_cond, ↓z_boxRo_agg, ↓z_boxRo_int, ↓z_boxRo_bool, ↓z_boxRo_str, ↓z_boxRo_sl, ↓z_boxRo_fn, ↓z_boxRo_vptr, ↓z_boxRo_ref, ↓z_len_sl, ↓z_len_msl, ↓z_len_str, ↓z_load1, ↓z_fa, ↓z_fa_ref, ↓z_callF, ↓z_andK, ↓z_orK, ↓z_and1, ↓z_and2, ↓z_and3, ↓z_and4, ↓z_and5, ↓z_and6, ↓z_and7, ↓z_and8, ↓z_and9, ↓z_and10, ↓z_and11, ↓z_and12, ↓z_or1, ↓z_or2, ↓z_or3, ↓z_or4, ↓z_or5, ↓z_or6, ↓z_or7, ↓z_or8, ↓z_or9, ↓z_or10, ↓z_or11, ↓z_or12, ↓z_add, ↓z_sub, ↓z_mul, ↓z_eql, ↓z_neq, ↓z_lss, ↓z_leq, ↓z_gtr, ↓z_geq, ↓z_not, ↓z_neg, ↓z_fin_int, ↓z_fin_bool, ↓z_fin_str, ↓z_ent_int, ↓z_ent_bool, ↓z_ent_str, ↓z_stn, ↓z_ldnn, ↓z_ldn0, ↓z_ldn1, ↓z_ldn2, ↓z_ldn3, ↓z_ldn4, ↓z_ldn5, ↓z_ldn6, ↓z_ldn7, ↓z_ldn8, List.drop_zero, List.drop_succ_cons, List.cons_append, List.nil_append, decide_eq_true_eq, decide_eq_false_iff_not, ite_not, ↓reduceIte, pub_agg, pub_int, pub_bool, pub_str, pub_fn, pub_vptr, pub_nilp, Nat.zero_add, List.length_cons, List.length_nil, Nat.reduceAdd, List.all_cons, List.all_nil, isCell_int, isCell_bool, isCell_str, isCell_sl, Bool.and_self, ↓z_loadn, Nat.reduceLeDiff, Nat.le_refl, List.take_succ_cons, List.take_zero, z_idx _ _ _ _ _ _ ea, Ins.enc, Ins.cs, AV.cells, q1, q2, q3, decide_true, decide_false, Bool.false_eq_true, idx_out G X _ _ _ hok.1.1 hok.1.2, idx_out G X _ _ _ hok.2.1 hok.2.2, z_call0 (f24_ok G X _ _ _ _ _)]
    exact hk
  have q3 := eq_false h3
  by_cases h4 : x.op = 4
  · have q4 := eq_true h4
    have h3' : x.op = 3 ∨ x.op = 4 ∨ x.op = 5 := by omega
    simp -implicitDefEqProofs only [q1, q2, eq_true h3', ↓reduceIte, decide_eq_true_eq] at hok
    have e6 : ¬ x.op = 6 := by omega
    simp -implicitDefEqProofs only [nextR, eq_false e6, valR, q1, q2, q3, q4, if_true, if_false] at hk
    simp -implicitDefEqProofs only [↓z_ret, ↓z_val, ↓z_pick, ↓z_cond, ↓z_boxRo_agg, ↓z_boxRo_int, ↓z_boxRo_bool, ↓z_boxRo_str, ↓z_boxRo_sl, ↓z_boxRo_fn, ↓z_boxRo_vptr, ↓z_boxRo_ref, ↓z_len_sl, ↓z_len_msl, ↓z_len_str, ↓z_load1, ↓z_fa, ↓z_fa_ref, ↓z_callF, ↓z_andK, ↓z_orK, ↓z_and1, ↓z_and2, ↓z_and3, ↓z_and4, ↓z_and5, ↓z_and6, ↓z_and7, ↓z_and8, ↓z_and9, ↓z_and10, ↓z_and11, ↓z_and12, ↓z_or1, ↓z_or2, ↓z_or3, ↓z_or4, ↓z_or5, ↓z_or6, ↓z_or7, ↓z_or8, ↓z_or9, ↓z_or10, ↓z_or11, ↓z_or12, ↓z_add, ↓z_sub, ↓z_mul, ↓z_eql, ↓z_neq, ↓z_lss, ↓z_leq, ↓z_gtr, ↓z_geq, ↓z_not, ↓z_neg, ↓z_fin_int, ↓z_fin_bool, ↓z_fin_str, ↓z_ent_int, ↓z_ent_bool, ↓z_ent_str, ↓z_stn, ↓z_ldnn, ↓z_ldn0, ↓z_ldn1, ↓z_ldn2, ↓z_ldn3, ↓z_ldn4, ↓z_ldn5, ↓z_ldn6, ↓z_ldn7, ↓z_ldn8, List.drop_zero, List.drop_succ_cons, List.cons_append, List.nil_append, decide_eq_true_eq, decide_eq_false_iff_not, ite_not, ↓reduceIte, pub_agg, pub_int, pub_bool, pub_str, pub_fn, pub_vptr, pub_nilp, Nat.zero_add, List.length_cons, List.length_nil, Nat.reduceAdd, List.all_cons, List.all_nil, isCell_int, isCell_bool, isCell_str, isCell_sl, Bool.and_self, ↓z_loadn, Nat.reduceLeDiff, Nat.le_refl, List.take_succ_cons, List.take_zero, z_idx _ _ _ _ _ _ ea, Ins.enc, Ins.cs, AV.cells, q1, q2, q3, q4, decide_true, decide_false, Bool.false_eq_true, idx_out G X _ _ _ hok.1.1 hok.1.2, idx_out G X _ _ _ hok.2.1 hok.2.2, z_call0 (f26_ok G X _ _ _ _ _)]
    exact hk
  have q4 := eq_false h4
  by_cases h5 : x.op = 5
  · have q5 := eq_true h5
    have h3' : x.op = 3 ∨ x.op = 4 ∨ x.op = 5 := by omega
    simp -implicitDefEqProofs only [q1, q2, eq_true h3', ↓reduceIte, decide_eq_true_eq] at hok
    have e6 : ¬ x.op = 6 := by omega
    simp -implicitDefEqProofs only [nextR, eq_false e6, valR, q1, q2, q3, q4, q5, if_true, if_false] at hk
    simp -implicitDefEqProofs only [↓z_ret, ↓z_val, ↓z_pick, ↓z_cond, ↓z_boxRo_agg, ↓z_boxRo_int, ↓z_boxRo_bool, ↓z_boxRo_str, ↓z_boxRo_sl, ↓z_boxRo_fn, ↓z_boxRo_vptr, ↓z_boxRo_ref, ↓z_len_sl, ↓z_len_msl, ↓z_len_str, ↓z_load1, ↓z_fa, ↓z_fa_ref, ↓z_callF, ↓z_andK, ↓z_orK, ↓z_and1, ↓z_and2, ↓z_and3, ↓z_and4, ↓z_and5, ↓z_and6, ↓z_and7, ↓z_and8, ↓z_and9, ↓z_and10, ↓z_and11, ↓z_and12, ↓z_or1, ↓z_or2, ↓z_or3, ↓z_or4, ↓z_or5, ↓z_or6, ↓z_or7, ↓z_or8, ↓z_or9, ↓z_or10, ↓z_or11, ↓z_or12, ↓z_add, ↓z_sub, ↓z_mul, ↓z_eql, ↓z_neq, ↓z_lss, ↓z_leq, ↓z_gtr, ↓z_geq, ↓z_not, ↓z_neg, ↓z_fin_int, ↓z_fin_bool, ↓z_fin_str, ↓z_ent_int, ↓z_ent_bool, ↓z_ent_str, ↓z_stn, ↓z_ldnn, ↓z_ldn0, ↓z_ldn1, ↓z_ldn2, ↓z_ldn3, ↓z_ldn4, ↓z_ldn5, ↓z_ldn6, ↓z_ldn7, ↓z_ldn8, List.drop_zero, List.drop_succ_cons, List.cons_append, List.nil_append, decide_eq_true_eq, decide_eq_false_iff_not, ite_not, ↓reduceIte, pub_agg, pub_int, pub_bool, pub_str, pub_fn, pub_vptr, pub_nilp, Nat.zero_add, List.length_cons, List.length_nil, Nat.reduceAdd, List.all_cons, List.all_nil, isCell_int, isCell_bool, isCell_str, isCell_sl, Bool.and_self, ↓z_loadn, Nat.reduceLeDiff, Nat.le_refl, List.take_succ_cons, List.take_zero, z_idx _ _ _ _ _ _ ea, Ins.enc, Ins.cs, AV.cells, q1, q2, q3, q4, q5, decide_true, decide_false, Bool.false_eq_true, idx_out G X _ _ _ hok.1.1 hok.1.2, idx_out G X _ _ _ hok.2.1 hok.2.2, z_call0 (f28_ok G X _ _ _ _ _)]
    exact hk
  have q5 := eq_false h5
  have h6 : x.op = 6 := by omega
  have q6 := eq_true h6
  have h3' : ¬ (x.op = 3 ∨ x.op = 4 ∨ x.op = 5) := by omega
  simp -implicitDefEqProofs only [q1, q2, eq_false h3', q6, ↓reduceIte, decide_eq_true_eq] at hok
  simp -implicitDefEqProofs only [nextR, valR, q1, q2, q3, q4, q5, q6, if_true, if_false] at hk
  have hw : IntKind.wrap .i64 ((nr : Int) + 1) = ((nr + 1 : Nat) : Int) := wrap_succ nr (by omega)
  simp -implicitDefEqProofs only [↓z_ret, ↓z_val, ↓z_pick, ↓z_cond, ↓z_boxRo_agg, ↓z_boxRo_int, ↓z_boxRo_bool, ↓z_boxRo_str, ↓z_boxRo_sl, ↓z_boxRo_fn, ↓z_boxRo_vptr, ↓z_boxRo_ref, ↓z_len_sl, ↓z_len_msl, ↓z_len_str, ↓z_load1, ↓z_fa, ↓z_fa_ref, ↓z_callF, ↓z_andK, ↓z_orK, ↓z_and1, ↓z_and2, ↓z_and3, ↓z_and4, ↓z_and5, ↓z_and6, ↓z_and7, ↓z_and8, ↓z_and9, ↓z_and10, ↓z_and11, ↓z_and12, ↓z_or1, ↓z_or2, ↓z_or3, ↓z_or4, ↓z_or5, ↓z_or6, ↓z_or7, ↓z_or8, ↓z_or9, ↓z_or10, ↓z_or11, ↓z_or12, ↓z_add, ↓z_sub, ↓z_mul, ↓z_eql, ↓z_neq, ↓z_lss, ↓z_leq, ↓z_gtr, ↓z_geq, ↓z_not, ↓z_neg, ↓z_fin_int, ↓z_fin_bool, ↓z_fin_str, ↓z_ent_int, ↓z_ent_bool, ↓z_ent_str, ↓z_stn, ↓z_ldnn, ↓z_ldn0, ↓z_ldn1, ↓z_ldn2, ↓z_ldn3, ↓z_ldn4, ↓z_ldn5, ↓z_ldn6, ↓z_ldn7, ↓z_ldn8, List.drop_zero, List.drop_succ_cons, List.cons_append, List.nil_append, decide_eq_true_eq, decide_eq_false_iff_not, ite_not, ↓reduceIte, pub_agg, pub_int, pub_bool, pub_str, pub_fn, pub_vptr, pub_nilp, Nat.zero_add, List.length_cons, List.length_nil, Nat.reduceAdd, List.all_cons, List.all_nil, isCell_int, isCell_bool, isCell_str, isCell_sl, Bool.and_self, ↓z_loadn, Nat.reduceLeDiff, Nat.le_refl, List.take_succ_cons, List.take_zero, z_idx _ _ _ _ _ _ ea, Ins.enc, Ins.cs, AV.cells, q1, q2, q3, q4, q5, q6, decide_true, decide_false, Bool.false_eq_true, idx_out G X _ _ _ hok.1.1 hok.1.2, z_call0 (f30_ok G X _ _ _ _ _), hw]
  exact hk
theorem f31_l3_ok (p : Prog) (inp : List Int) (gi : Gr) (m b : Int) (s : St) (h8 : p.ins.length ≤ 8192) (hin : (inp.length : Int) = p.inputs) : ∀ (n i nr : Nat) (out : List Int), i + n = p.ins.length → out.length = i → nr ≤ i → okAll p.inputs (p.ins.drop i) i = true → ∀ (S : St) (g : Gr), Child s S → Grow S g out.length →
    f31_l3 (PP T1 G X) (.sl 1 (inp.map I) gi) (.vptr p.cs) (.vptr (rcs m b)) (.sl 1 (out.map I) g) (.int .i64 (nr : Int)) (.int .i64 (i : Int)) S
      = .ok (.tup [sl1 (runR (opsM m b) inp (p.ins.drop i) nr out) (gfin (runR (opsM m b) inp (p.ins.drop i) nr out)), I 0]) s := by
  intro n
  induction n with
  | zero =>
    intro i nr out hi ho hnr ha S g hS hg
    have h : ¬ ((i : Int) < (p.ins.length : Int)) := by omega
    rw [f31_l3_eq _ (PP_ok _ _ _)]
    simp -implicitDefEqProofs only [↓z_ret, ↓z_val, ↓z_pick, ↓z_cond, ↓z_boxRo_agg, ↓z_boxRo_int, ↓z_boxRo_bool, ↓z_boxRo_str, ↓z_boxRo_sl, ↓z_boxRo_fn, ↓z_boxRo_vptr, ↓z_boxRo_ref, ↓z_len_sl, ↓z_len_msl, ↓z_len_str, ↓z_load1, ↓z_fa, ↓z_fa_ref, ↓z_callF, ↓z_andK, ↓z_orK, ↓z_and1, ↓z_and2, ↓z_and3, ↓z_and4, ↓z_and5, ↓z_and6, ↓z_and7, ↓z_and8, ↓z_and9, ↓z_and10, ↓z_and11, ↓z_and12, ↓z_or1, ↓z_or2, ↓z_or3, ↓z_or4, ↓z_or5, ↓z_or6, ↓z_or7, ↓z_or8, ↓z_or9, ↓z_or10, ↓z_or11, ↓z_or12, ↓z_add, ↓z_sub, ↓z_mul, ↓z_eql, ↓z_neq, ↓z_lss, ↓z_leq, ↓z_gtr, ↓z_geq, ↓z_not, ↓z_neg, ↓z_fin_int, ↓z_fin_bool, ↓z_fin_str, ↓z_ent_int, ↓z_ent_bool, ↓z_ent_str, ↓z_stn, ↓z_ldnn, ↓z_ldn0, ↓z_ldn1, ↓z_ldn2, ↓z_ldn3, ↓z_ldn4, ↓z_ldn5, ↓z_ldn6, ↓z_ldn7, ↓z_ldn8, List.drop_zero, List.drop_succ_cons, List.cons_append, List.nil_append, decide_eq_true_eq, decide_eq_false_iff_not, ite_not, ↓reduceIte, pub_agg, pub_int, pub_bool, pub_str, pub_fn, pub_vptr, pub_nilp, Nat.zero_add, List.length_cons, List.length_nil, Nat.reduceAdd, List.all_cons, List.all_nil, isCell_int, isCell_bool, isCell_str, isCell_sl, Bool.and_self, ↓z_loadn, Nat.reduceLeDiff, Nat.le_refl, List.take_succ_cons, List.take_zero, Prog.cs, List.length_map, eq_false h, decide_false, Bool.false_eq_true, f31_j7_eq _ (PP_ok _ _ _)]
    rw [List.drop_of_length_le (by omega), z_finC2 hS _ _ _ _ (freeze_grow (by simpa using hg)) rfl, gfin_map]
    rfl
  | succ n ih =>
    intro i nr out hi ho hnr ha S g hS hg
    have h : (i : Int) < (p.ins.length : Int) := by omega
    have hlt : i < p.ins.length := by omega
    obtain ⟨x, hx⟩ : ∃ x, p.ins[i]? = some x := ⟨_, List.getElem?_eq_getElem hlt⟩
    have hx' := (List.getElem?_eq_some_iff.1 hx).2
    rw [List.drop_eq_getElem_cons hlt, hx'] at ha ⊢
    simp -implicitDefEqProofs only [okAll, Bool.and_eq_true] at ha
    subst ho
    have step := f31_j4_ok G X p inp gi m b x out g nr S (.ok (.tup [sl1 (runR (opsM m b) inp (x :: p.ins.drop (out.length + 1)) nr out) (gfin (runR (opsM m b) inp (x :: p.ins.drop (out.length + 1)) nr out)), I 0]) s) (by omega) hx (by rw [hin]; exact ha.1) (by
      rw [f31_j5_eq _ (PP_ok _ _ _)]
      simp -implicitDefEqProofs only [↓z_ret, ↓z_val, ↓z_pick, ↓z_cond, ↓z_boxRo_agg, ↓z_boxRo_int, ↓z_boxRo_bool, ↓z_boxRo_str, ↓z_boxRo_sl, ↓z_boxRo_fn, ↓z_boxRo_vptr, ↓z_boxRo_ref, ↓z_len_sl, ↓z_len_msl, ↓z_len_str, ↓z_load1, ↓z_fa, ↓z_fa_ref, ↓z_callF, ↓z_andK, ↓z_orK, ↓z_and1, ↓z_and2, ↓z_and3, ↓z_and4, ↓z_and5, ↓z_and6, ↓z_and7, ↓z_and8, ↓z_and9, ↓z_and10, ↓z_and11, ↓z_and12, ↓z_or1, ↓z_or2, ↓z_or3, ↓z_or4, ↓z_or5, ↓z_or6, ↓z_or7, ↓z_or8, ↓z_or9, ↓z_or10, ↓z_or11, ↓z_or12, ↓z_add, ↓z_sub, ↓z_mul, ↓z_eql, ↓z_neq, ↓z_lss, ↓z_leq, ↓z_gtr, ↓z_geq, ↓z_not, ↓z_neg, ↓z_fin_int, ↓z_fin_bool, ↓z_fin_str, ↓z_ent_int, ↓z_ent_bool, ↓z_ent_str, ↓z_stn, ↓z_ldnn, ↓z_ldn0, ↓z_ldn1, ↓z_ldn2, ↓z_ldn3, ↓z_ldn4, ↓z_ldn5, ↓z_ldn6, ↓z_ldn7, ↓z_ldn8, List.drop_zero, List.drop_succ_cons, List.cons_append, List.nil_append, decide_eq_true_eq, decide_eq_false_iff_not, ite_not, ↓reduceIte, pub_agg, pub_int, pub_bool, pub_str, pub_fn, pub_vptr, pub_nilp, Nat.zero_add, List.length_cons, List.length_nil, Nat.reduceAdd, List.all_cons, List.all_nil, isCell_int, isCell_bool, isCell_str, isCell_sl, Bool.and_self, ↓z_loadn, Nat.reduceLeDiff, Nat.le_refl, List.take_succ_cons, List.take_zero, z_bs_int]
      refine z_append (by simpa using hg.new _) (by simp) (by simp; omega) (by simp [isCell_int, AV.cells]) fun g' S' hg' _ _ _ hG => ?_
      have hw : IntKind.wrap .i64 ((out.length : Int) + 1) = ((out.length + 1 : Nat) : Int) := wrap_succ out.length (by omega)
      rw [f31_j6_eq _ (PP_ok _ _ _)]
      simp -implicitDefEqProofs only [↓z_ret, ↓z_val, ↓z_pick, ↓z_cond, ↓z_boxRo_agg, ↓z_boxRo_int, ↓z_boxRo_bool, ↓z_boxRo_str, ↓z_boxRo_sl, ↓z_boxRo_fn, ↓z_boxRo_vptr, ↓z_boxRo_ref, ↓z_len_sl, ↓z_len_msl, ↓z_len_str, ↓z_load1, ↓z_fa, ↓z_fa_ref, ↓z_callF, ↓z_andK, ↓z_orK, ↓z_and1, ↓z_and2, ↓z_and3, ↓z_and4, ↓z_and5, ↓z_and6, ↓z_and7, ↓z_and8, ↓z_and9, ↓z_and10, ↓z_and11, ↓z_and12, ↓z_or1, ↓z_or2, ↓z_or3, ↓z_or4, ↓z_or5, ↓z_or6, ↓z_or7, ↓z_or8, ↓z_or9, ↓z_or10, ↓z_or11, ↓z_or12, ↓z_add, ↓z_sub, ↓z_mul, ↓z_eql, ↓z_neq, ↓z_lss, ↓z_leq, ↓z_gtr, ↓z_geq, ↓z_not, ↓z_neg, ↓z_fin_int, ↓z_fin_bool, ↓z_fin_str, ↓z_ent_int, ↓z_ent_bool, ↓z_ent_str, ↓z_stn, ↓z_ldnn, ↓z_ldn0, ↓z_ldn1, ↓z_ldn2, ↓z_ldn3, ↓z_ldn4, ↓z_ldn5, ↓z_ldn6, ↓z_ldn7, ↓z_ldn8, List.drop_zero, List.drop_succ_cons, List.cons_append, List.nil_append, decide_eq_true_eq, decide_eq_false_iff_not, ite_not, ↓reduceIte, pub_agg, pub_int, pub_bool, pub_str, pub_fn, pub_vptr, pub_nilp, Nat.zero_add, List.length_cons, List.length_nil, Nat.reduceAdd, List.all_cons, List.all_nil, isCell_int, isCell_bool, isCell_str, isCell_sl, Bool.and_self, ↓z_loadn, Nat.reduceLeDiff, Nat.le_refl, List.take_succ_cons, List.take_zero, hw]
      have := ih (out.length + 1) (nextR x nr) (out ++ [valR (opsM m b) inp out nr x]) (by omega) (by simp) (by unfold nextR; split <;> omega) ha.2 S' g' (hG.child (hS.new _)) (by simpa using hg')
      rw [List.map_append] at this
      exact this)
    rw [f31_l3_eq _ (PP_ok _ _ _)]
    simp -implicitDefEqProofs only [Prog.cs, rcs] at step ⊢
    simp -implicitDefEqProofs only [↓z_ret, ↓z_val, ↓z_pick, ↓z_cond, ↓z_boxRo_agg, ↓z_boxRo_int, ↓z_boxRo_bool, ↓z_boxRo_str, ↓z_boxRo_sl, ↓z_boxRo_fn, ↓z_boxRo_vptr, ↓z_boxRo_ref, ↓z_len_sl, ↓z_len_msl, ↓z_len_str, ↓z_load1, ↓z_fa, ↓z_fa_ref, ↓z_callF, ↓z_andK, ↓z_orK, ↓z_and1, ↓z_and2, ↓z_and3, ↓z_and4, ↓z_and5, ↓z_and6, ↓z_and7, ↓z_and8, ↓z_and9, ↓z_and10, ↓z_and11, ↓z_and12, ↓z_or1, ↓z_or2, ↓z_or3, ↓z_or4, ↓z_or5, ↓z_or6, ↓z_or7, ↓z_or8, ↓z_or9, ↓z_or10, ↓z_or11, ↓z_or12, ↓z_add, ↓z_sub, ↓z_mul, ↓z_eql, ↓z_neq, ↓z_lss, ↓z_leq, ↓z_gtr, ↓z_geq, ↓z_not, ↓z_neg, ↓z_fin_int, ↓z_fin_bool, ↓z_fin_str, ↓z_ent_int, ↓z_ent_bool, ↓z_ent_str, ↓z_stn, ↓z_ldnn, ↓z_ldn0, ↓z_ldn1, ↓z_ldn2, ↓z_ldn3, ↓z_ldn4, ↓z_ldn5, ↓z_ldn6, ↓z_ldn7, ↓z_ldn8, List.drop_zero, List.drop_succ_cons, List.cons_append, List.nil_append, decide_eq_true_eq, decide_eq_false_iff_not, ite_not, ↓reduceIte, pub_agg, pub_int, pub_bool, pub_str, pub_fn, pub_vptr, pub_nilp, Nat.zero_add, List.length_cons, List.length_nil, Nat.reduceAdd, List.all_cons, List.all_nil, isCell_int, isCell_bool, isCell_str, isCell_sl, Bool.and_self, ↓z_loadn, Nat.reduceLeDiff, Nat.le_refl, List.take_succ_cons, List.take_zero, List.length_map, eq_true h, decide_true, if_true, step]
def refRun (p : Prog) (inp : List Int) (m b : Int) (g : List Int → Gr) : AV :=
  if p.check = 0 then if (inp.length : Int) = p.inputs then .tup [sl1 (runR (opsM m b) inp p.ins 0 []) (g (runR (opsM m b) inp p.ins 0 [])), I 0] else .tup [.sl 1 [] .nil, I 1] else .tup [.sl 1 [] .nil, I p.check]
theorem f31_ok (p : Prog) (inp : List Int) (gi : Gr) (m b : Int) (s : St) (hv : p.vals.length ≤ 9223372036854775807) (hvv : ∀ v, v ∈ p.vals → v.1.length ≤ 9223372036854775807) :
    callω T1 G X 31 [p.enc, sl1 inp gi, .agg (rcs m b)] s = .ok (refRun p inp m b gfin) s := by
  rw [f31_call, f31_eq]
  have h16 := f16_ok G X p s.enter hv hvv
  unfold refRun
  simp -implicitDefEqProofs only [Prog.enc, Prog.cs] at h16
  by_cases hc : p.check = 0
  · by_cases hin : (inp.length : Int) = p.inputs
    · have hl := f31_l3_ok G X p inp gi m b s (check0 hc).1 hin p.ins.length 0 0 [] (by omega) rfl (by omega) (okAll_scan _ _ _ _ _ _ (check0 hc).2.2.1) s.enter .nil (.enter s) .nil
      simp -implicitDefEqProofs only [Int.natCast_zero, List.drop_zero, Prog.cs, List.map_nil, rcs] at hl
      simp -implicitDefEqProofs only [Prog.enc, Prog.cs, rcs, sl1, ↓z_ret, ↓z_val, ↓z_pick, ↓z_cond, ↓z_boxRo_agg, ↓z_boxRo_int, ↓z_boxRo_bool, ↓z_boxRo_str, ↓z_boxRo_sl, ↓z_boxRo_fn, ↓z_boxRo_vptr, ↓z_boxRo_ref, ↓z_len_sl, ↓z_len_msl, ↓z_len_str, ↓z_load1, ↓z_fa, ↓z_fa_ref, ↓z_callF, ↓z_andK, ↓z_orK, ↓z_and1, ↓z_and2, ↓z_and3, ↓z_and4, ↓z_and5, ↓z_and6, ↓z_and7, ↓z_and8, ↓z_and9, ↓z_and10, ↓z_and11, ↓z_and12, ↓z_or1, ↓z_or2, ↓z_or3, ↓z_or4, ↓z_or5, ↓z_or6, ↓z_or7, ↓z_or8, ↓z_or9, ↓z_or10, ↓z_or11, ↓z_or12, ↓z_add, ↓z_sub, ↓z_mul, ↓z_eql, ↓z_neq, ↓z_lss, ↓z_leq, ↓z_gtr, ↓z_geq, ↓z_not, ↓z_neg, ↓z_fin_int, ↓z_fin_bool, ↓z_fin_str, ↓z_ent_int, ↓z_ent_bool, ↓z_ent_str, ↓z_stn, ↓z_ldnn, ↓z_ldn0, ↓z_ldn1, ↓z_ldn2, ↓z_ldn3, ↓z_ldn4, ↓z_ldn5, ↓z_ldn6, ↓z_ldn7, ↓z_ldn8, List.drop_zero, List.drop_succ_cons, List.cons_append, List.nil_append, decide_eq_true_eq, decide_eq_false_iff_not, ite_not, ↓reduceIte, pub_agg, pub_int, pub_bool, pub_str, pub_fn, pub_vptr, pub_nilp, Nat.zero_add, List.length_cons, List.length_nil, Nat.reduceAdd, List.all_cons, List.all_nil, isCell_int, isCell_bool, isCell_str, isCell_sl, Bool.and_self, ↓z_loadn, Nat.reduceLeDiff, Nat.le_refl, List.take_succ_cons, List.take_zero, z_call0 h16, eq_true hc, f31_j1_eq _ (PP_ok _ _ _), List.length_map, eq_true hin, not_true_eq_false, decide_false, Bool.false_eq_true, f31_j2_eq _ (PP_ok _ _ _)]
      simp -implicitDefEqProofs only [sl1] at hl
      rw [hl]
    · simp -implicitDefEqProofs only [Prog.enc, Prog.cs, rcs, sl1, ↓z_ret, ↓z_val, ↓z_pick, ↓z_cond, ↓z_boxRo_agg, ↓z_boxRo_int, ↓z_boxRo_bool, ↓z_boxRo_str, ↓z_boxRo_sl, ↓z_boxRo_fn, ↓z_boxRo_vptr, ↓z_boxRo_ref, ↓z_len_sl, ↓z_len_msl, ↓z_len_str, ↓z_load1, ↓z_fa, ↓z_fa_ref, ↓z_callF, ↓z_andK, ↓z_orK, ↓z_and1, ↓z_and2, ↓z_and3, ↓z_and4, ↓z_and5, ↓z_and6, ↓z_and7, ↓z_and8, ↓z_and9, ↓z_and10, ↓z_and11, ↓z_and12, ↓z_or1, ↓z_or2, ↓z_or3, ↓z_or4, ↓z_or5, ↓z_or6, ↓z_or7, ↓z_or8, ↓z_or9, ↓z_or10, ↓z_or11, ↓z_or12, ↓z_add, ↓z_sub, ↓z_mul, ↓z_eql, ↓z_neq, ↓z_lss, ↓z_leq, ↓z_gtr, ↓z_geq, ↓z_not, ↓z_neg, ↓z_fin_int, ↓z_fin_bool, ↓z_fin_str, ↓z_ent_int, ↓z_ent_bool, ↓z_ent_str, ↓z_stn, ↓z_ldnn, ↓z_ldn0, ↓z_ldn1, ↓z_ldn2, ↓z_ldn3, ↓z_ldn4, ↓z_ldn5, ↓z_ldn6, ↓z_ldn7, ↓z_ldn8, List.drop_zero, List.drop_succ_cons, List.cons_append, List.nil_append, decide_eq_true_eq, decide_eq_false_iff_not, ite_not, ↓reduceIte, pub_agg, pub_int, pub_bool, pub_str, pub_fn, pub_vptr, pub_nilp, Nat.zero_add, List.length_cons, List.length_nil, Nat.reduceAdd, List.all_cons, List.all_nil, isCell_int, isCell_bool, isCell_str, isCell_sl, Bool.and_self, ↓z_loadn, Nat.reduceLeDiff, Nat.le_refl, List.take_succ_cons, List.take_zero, z_call0 h16, eq_true hc, f31_j1_eq _ (PP_ok _ _ _), List.length_map, eq_false hin, not_true_eq_false, not_false_eq_true, decide_true, decide_false, Bool.false_eq_true]
      exact z_finC2 (.enter s) _ _ _ _ rfl rfl
  · simp -implicitDefEqProofs only [Prog.enc, Prog.cs, rcs, sl1, ↓z_ret, ↓z_val, ↓z_pick, ↓z_cond, ↓z_boxRo_agg, ↓z_boxRo_int, ↓z_boxRo_bool, ↓z_boxRo_str, ↓z_boxRo_sl, ↓z_boxRo_fn, ↓z_boxRo_vptr, ↓z_boxRo_ref, ↓z_len_sl, ↓z_len_msl, ↓z_len_str, ↓z_load1, ↓z_fa, ↓z_fa_ref, ↓z_callF, ↓z_andK, ↓z_orK, ↓z_and1, ↓z_and2, ↓z_and3, ↓z_and4, ↓z_and5, ↓z_and6, ↓z_and7, ↓z_and8, ↓z_and9, ↓z_and10, ↓z_and11, ↓z_and12, ↓z_or1, ↓z_or2, ↓z_or3, ↓z_or4, ↓z_or5, ↓z_or6, ↓z_or7, ↓z_or8, ↓z_or9, ↓z_or10, ↓z_or11, ↓z_or12, ↓z_add, ↓z_sub, ↓z_mul, ↓z_eql, ↓z_neq, ↓z_lss, ↓z_leq, ↓z_gtr, ↓z_geq, ↓z_not, ↓z_neg, ↓z_fin_int, ↓z_fin_bool, ↓z_fin_str, ↓z_ent_int, ↓z_ent_bool, ↓z_ent_str, ↓z_stn, ↓z_ldnn, ↓z_ldn0, ↓z_ldn1, ↓z_ldn2, ↓z_ldn3, ↓z_ldn4, ↓z_ldn5, ↓z_ldn6, ↓z_ldn7, ↓z_ldn8, List.drop_zero, List.drop_succ_cons, List.cons_append, List.nil_append, decide_eq_true_eq, decide_eq_false_iff_not, ite_not, ↓reduceIte, pub_agg, pub_int, pub_bool, pub_str, pub_fn, pub_vptr, pub_nilp, Nat.zero_add, List.length_cons, List.length_nil, Nat.reduceAdd, List.all_cons, List.all_nil, isCell_int, isCell_bool, isCell_str, isCell_sl, Bool.and_self, ↓z_loadn, Nat.reduceLeDiff, Nat.le_refl, List.take_succ_cons, List.take_zero, z_call0 h16, eq_false hc, not_true_eq_false, not_false_eq_true, decide_true, decide_false, Bool.false_eq_true]
    exact z_finC2 (.enter s) _ _ _ _ rfl rfl
end Go.AbZ
end
section
namespace Go.AbZ
open Go.Ab
variable (G : Nat → AV) (X : Nat → List AV → St → Res)
set_option linter.unusedSimpArgs false
set_option linter.unusedVariables false
/-! Objects of the frame before the last but one. -/
abbrev GS (S t : St) : St := (reup S t).enter
theorem GS_depth (S t : St) : (GS S t).depth = t.depth + 2 := by simp [St.depth, reup, St.enter]; omega
theorem GS_get (S t : St) (j : Nat) : (GS S t).get (.g t.depth j) = t.own[j]? := by
  simp -implicitDefEqProofs only [St.get, GS_depth]
  rw [if_neg (by omega), if_pos (by omega)]
  have : t.depth + 2 - 1 - t.depth = 1 := by omega
  rw [this]
  rfl
theorem GS_set (S t : St) (j : Nat) (o : AObj) : (GS S t).set (.g t.depth j) o = some (GS S { t with own := t.own.set j o }) := by
  simp -implicitDefEqProofs only [St.set, GS_depth]
  rw [if_neg (by omega), if_pos ⟨by omega, by simp [St.depth, reup, St.enter]⟩]
  have : t.depth + 2 - 1 - t.depth = 1 := by omega
  rw [this]
  rfl
theorem GS_newBy (S t : St) (j : Nat) (o : AObj) : (GS S t).newBy (.g t.depth j) o = some (.g t.depth t.own.length, GS S { t with own := t.own ++ [o] }) := by
  simp -implicitDefEqProofs only [St.newBy, GS_depth]
  rw [if_neg (by omega), if_pos ⟨by omega, by simp [St.depth, reup, St.enter]⟩]
  have : t.depth + 2 - 1 - t.depth = 1 := by omega
  rw [this]
  rfl
theorem z_ld_g (S t : St) (j : Nat) (c : AV) (cs : List AV) (k : K1) (h : t.own[j]? = some (.cells (c :: cs))) : (PP T1 G X).load (GS S t) k none (.ref (.g t.depth j) 0) = k c (GS S t) := by
  rw [zz_load]
  simp -implicitDefEqProofs only [loadOp, GS_get, h]
  rfl
theorem z_ldn_g (S t : St) (j n : Nat) (cs : List AV) (k : K1) (h : t.own[j]? = some (.cells cs)) (hn : cs.length = n) : (PP T1 G X).load (GS S t) k (some n) (.ref (.g t.depth j) 0) = k (.agg cs) (GS S t) := by
  rw [zz_load]
  subst hn
  simp -implicitDefEqProofs only [loadOp, GS_get, h, loadV, List.drop_zero, show Nat.ble cs.length cs.length = true from Nat.ble_eq_true_of_le (Nat.le_refl _), cond_true, List.take_length]
  rfl
theorem z_st_g (S t : St) (j : Nat) (c v : AV) (k : K1) (h : t.own[j]? = some (.cells [c])) (hv : v.isCell = true) (hc : v.cells = [v]) (hl : AV.low t.depth v = true) :
    (PP T1 G X).store (GS S t) k 1 (.ref (.g t.depth j) 0) v = k .dead (GS S { t with own := t.own.set j (.cells [v]) }) := by
  rw [zz_store]
  have hval : v.isVal = true := by cases v <;> first | rfl | cases hv
  simp -implicitDefEqProofs only [storeOp, hval, hc, List.length_cons, List.length_nil, Nat.zero_add, Nat.beq_refl, Bool.and_self, cond_true]
  unfold storeV
  simp -implicitDefEqProofs only [GS_get, h]
  have ht : (GS S t).takes (.g t.depth j) [v] = true := by simp [St.takes, AV.lowL, hl]
  simp -implicitDefEqProofs only [List.length_cons, List.length_nil, Nat.zero_add, show Nat.ble 1 1 = true from rfl, ht, List.all_cons, hv, List.all_nil, Bool.and_self, cond_true]
  show (match (GS S t).set (.g t.depth j) (.cells (splice [c] 0 [v])) with | some s => k .dead s | none => .fail) = _
  rw [GS_set]
  rfl

/-! The list of the calls. -/
def g5 (d : Nat) (l : List Int) : Gr := if l = [] then .nil else .buf (.g d 3)
def ring5 (d : Nat) : List AV := [.fn 22 [.ref (.g d 1) 0, .ref (.g d 0) 0], .fn 23 [.ref (.g d 1) 0, .ref (.g d 0) 0], .fn 25 [.ref (.g d 1) 0, .ref (.g d 0) 0], .fn 27 [.ref (.g d 1) 0, .ref (.g d 0) 0], .fn 29 [.ref (.g d 1) 0, .ref (.g d 0) 0]]
def tok5 (l : List Int) : List AObj := if l = [] then [] else [.tok l.length]
def s5 (s : St) (m b : Int) (l : List Int) : St := { own := [.cells (rcs m b), .cells [.sl 1 (l.map I) (g5 s.enter.depth l)], .cells (ring5 s.enter.depth)] ++ tok5 l, up := s.own :: s.up, ro := s.ro }
theorem s5_depth (s : St) (m b : Int) (l : List Int) : (s5 s m b l).depth = s.enter.depth := rfl
/-- Behind the append, before the variable is set. -/
def mid5 (s : St) (m b : Int) (l : List Int) : St := { own := [.cells (rcs m b), .cells [.sl 1 (l.map I) (g5 s.enter.depth l)], .cells (ring5 s.enter.depth), .tok (l.length + 1)], up := s.own :: s.up, ro := s.ro }
theorem z_app5 (s S : St) (m b : Int) (l : List Int) (n : Int) (k : K1) (g2 : Gr) (hl : l.length < 9000) : (PP T1 G X).append (GS S (s5 s m b l)) k 1 8 (some (.g s.enter.depth 1)) (.sl 1 (l.map I) (g5 s.enter.depth l)) (.sl 1 [I n] g2) = k (.sl 1 ((l ++ [n]).map I) (.buf (.g s.enter.depth 3))) (GS S (mid5 s m b l)) := by
  rw [zz_append]
  unfold appendOp
  simp -implicitDefEqProofs only
  unfold appendV
  simp -implicitDefEqProofs only [elemsOf, Nat.beq_refl, Bool.true_and, List.length_map, List.length_cons, List.length_nil, Nat.zero_add]
  rw [show Nat.ble ((l.length + 1) * 8) 1099511627776 = true from Nat.ble_eq_true_of_le (by omega)]
  simp -implicitDefEqProofs only [cond_true]
  by_cases h : l = []
  · subst h
    have := GS_newBy S (s5 s m b []) 1 (.tok (0 + 1))
    rw [s5_depth] at this
    simp -implicitDefEqProofs only [g5, if_true, List.length_nil]
    rw [this]
    rfl
  · have hg := GS_get S (s5 s m b l) 3
    rw [s5_depth] at hg
    have e : (s5 s m b l).own[3]? = some (.tok l.length) := by simp [s5, tok5, h]
    rw [e] at hg
    simp -implicitDefEqProofs only [g5, if_neg h, hg, Nat.beq_refl, List.flatMap_cons, List.flatMap_nil, AV.cells, List.append_nil, List.all_cons, isCell_int, List.all_nil, Bool.and_self, cond_true]
    have hs := GS_set S (s5 s m b l) 3 (.tok (l.length + 1))
    rw [s5_depth] at hs
    rw [hs]
    have e2 : ({ s5 s m b l with own := (s5 s m b l).own.set 3 (.tok (l.length + 1)) } : St) = mid5 s m b l := by simp [s5, mid5, tok5, h]
    simp -implicitDefEqProofs only [e2, List.map_append, List.map_cons, List.map_nil]
    rfl
theorem z_var5 (s S : St) (m b : Int) (l : List Int) (n : Int) (k : K1) : (PP T1 G X).store (GS S (mid5 s m b l)) k 1 (.ref (.g s.enter.depth 1) 0) (.sl 1 ((l ++ [n]).map I) (.buf (.g s.enter.depth 3))) = k .dead (GS S (s5 s m b (l ++ [n]))) := by
  have := z_st_g G X S (mid5 s m b l) 1 (.sl 1 (l.map I) (g5 s.enter.depth l)) (.sl 1 ((l ++ [n]).map I) (.buf (.g s.enter.depth 3))) k rfl rfl rfl (by simp -implicitDefEqProofs only [AV.low, Loc.low]; exact Nat.ble_eq_true_of_le (Nat.le_refl _))
  have hd : (mid5 s m b l).depth = s.enter.depth := rfl
  rw [hd] at this
  rw [this]
  have e : ({ mid5 s m b l with own := (mid5 s m b l).own.set 1 (.cells [.sl 1 ((l ++ [n]).map I) (.buf (.g s.enter.depth 3))]) } : St) = s5 s m b (l ++ [n]) := by simp [s5, mid5, tok5, g5]
  rw [e]
theorem z_ldv5 (s S : St) (m b : Int) (l : List Int) (k : K1) : (PP T1 G X).load (GS S (s5 s m b l)) k none (.ref (.g s.enter.depth 1) 0) = k (.sl 1 (l.map I) (g5 s.enter.depth l)) (GS S (s5 s m b l)) := z_ld_g G X S (s5 s m b l) 1 _ [] k rfl
theorem z_ldr5 (s S : St) (m b : Int) (l : List Int) (k : K1) : (PP T1 G X).load (GS S (s5 s m b l)) k (some 3) (.ref (.g s.enter.depth 0) 0) = k (.agg (rcs m b)) (GS S (s5 s m b l)) := z_ldn_g G X S (s5 s m b l) 0 3 _ k rfl rfl
theorem f22_ok (m b n : Int) (s S : St) (l : List Int) (hl : l.length < 9000) : callω T1 G X 22 [I n, .ref (.g s.enter.depth 1) 0, .ref (.g s.enter.depth 0) 0] (reup S (s5 s m b l)) = .ok (I (redI m n)) (reup S (s5 s m b (l ++ [2]))) := by
  rw [f22_call, f22_eq]
  have h8 := fun S => f18_ok' G X m b n S
  simp -implicitDefEqProofs only [rcs] at h8
  simp -implicitDefEqProofs only [↓z_ret, ↓z_val, ↓z_pick, ↓z_cond, ↓z_boxRo_agg, ↓z_boxRo_int, ↓z_boxRo_bool, ↓z_boxRo_str, ↓z_boxRo_sl, ↓z_boxRo_fn, ↓z_boxRo_vptr, ↓z_boxRo_ref, ↓z_len_sl, ↓z_len_msl, ↓z_len_str, ↓z_load1, ↓z_fa, ↓z_fa_ref, ↓z_callF, ↓z_andK, ↓z_orK, ↓z_and1, ↓z_and2, ↓z_and3, ↓z_and4, ↓z_and5, ↓z_and6, ↓z_and7, ↓z_and8, ↓z_and9, ↓z_and10, ↓z_and11, ↓z_and12, ↓z_or1, ↓z_or2, ↓z_or3, ↓z_or4, ↓z_or5, ↓z_or6, ↓z_or7, ↓z_or8, ↓z_or9, ↓z_or10, ↓z_or11, ↓z_or12, ↓z_add, ↓z_sub, ↓z_mul, ↓z_eql, ↓z_neq, ↓z_lss, ↓z_leq, ↓z_gtr, ↓z_geq, ↓z_not, ↓z_neg, ↓z_fin_int, ↓z_fin_bool, ↓z_fin_str, ↓z_ent_int, ↓z_ent_bool, ↓z_ent_str, ↓z_stn, ↓z_ldnn, ↓z_ldn0, ↓z_ldn1, ↓z_ldn2, ↓z_ldn3, ↓z_ldn4, ↓z_ldn5, ↓z_ldn6, ↓z_ldn7, ↓z_ldn8, List.drop_zero, List.drop_succ_cons, List.cons_append, List.nil_append, decide_eq_true_eq, decide_eq_false_iff_not, ite_not, ↓reduceIte, pub_agg, pub_int, pub_bool, pub_str, pub_fn, pub_vptr, pub_nilp, Nat.zero_add, List.length_cons, List.length_nil, Nat.reduceAdd, List.all_cons, List.all_nil, isCell_int, isCell_bool, isCell_str, isCell_sl, Bool.and_self, ↓z_loadn, Nat.reduceLeDiff, Nat.le_refl, List.take_succ_cons, List.take_zero, z_ldv5, z_bs_int, hAt, z_app5 G X s S m b l _ _ _ hl, z_var5, z_ldr5, z_call0 (h8 _), AV.pub, Gr.pub, Loc.pub, rcs]
end Go.AbZ
end
section
namespace Go.AbZ
open Go.Ab
variable (G : Nat → AV) (X : Nat → List AV → St → Res)
set_option linter.unusedSimpArgs false
set_option linter.unusedVariables false
theorem f23_ok (m b x y : Int) (s S : St) (l : List Int) (hl : l.length < 9000) : callω T1 G X 23 [I x, I y, .ref (.g s.enter.depth 1) 0, .ref (.g s.enter.depth 0) 0] (reup S (s5 s m b l)) = .ok (I (addI m x y)) (reup S (s5 s m b (l ++ [3]))) := by
  rw [f23_call, f23_eq]
  have h8 := fun S => f24_ok G X m b x y S
  simp -implicitDefEqProofs only [rcs] at h8
  simp -implicitDefEqProofs only [↓z_ret, ↓z_val, ↓z_pick, ↓z_cond, ↓z_boxRo_agg, ↓z_boxRo_int, ↓z_boxRo_bool, ↓z_boxRo_str, ↓z_boxRo_sl, ↓z_boxRo_fn, ↓z_boxRo_vptr, ↓z_boxRo_ref, ↓z_len_sl, ↓z_len_msl, ↓z_len_str, ↓z_load1, ↓z_fa, ↓z_fa_ref, ↓z_callF, ↓z_andK, ↓z_orK, ↓z_and1, ↓z_and2, ↓z_and3, ↓z_and4, ↓z_and5, ↓z_and6, ↓z_and7, ↓z_and8, ↓z_and9, ↓z_and10, ↓z_and11, ↓z_and12, ↓z_or1, ↓z_or2, ↓z_or3, ↓z_or4, ↓z_or5, ↓z_or6, ↓z_or7, ↓z_or8, ↓z_or9, ↓z_or10, ↓z_or11, ↓z_or12, ↓z_add, ↓z_sub, ↓z_mul, ↓z_eql, ↓z_neq, ↓z_lss, ↓z_leq, ↓z_gtr, ↓z_geq, ↓z_not, ↓z_neg, ↓z_fin_int, ↓z_fin_bool, ↓z_fin_str, ↓z_ent_int, ↓z_ent_bool, ↓z_ent_str, ↓z_stn, ↓z_ldnn, ↓z_ldn0, ↓z_ldn1, ↓z_ldn2, ↓z_ldn3, ↓z_ldn4, ↓z_ldn5, ↓z_ldn6, ↓z_ldn7, ↓z_ldn8, List.drop_zero, List.drop_succ_cons, List.cons_append, List.nil_append, decide_eq_true_eq, decide_eq_false_iff_not, ite_not, ↓reduceIte, pub_agg, pub_int, pub_bool, pub_str, pub_fn, pub_vptr, pub_nilp, Nat.zero_add, List.length_cons, List.length_nil, Nat.reduceAdd, List.all_cons, List.all_nil, isCell_int, isCell_bool, isCell_str, isCell_sl, Bool.and_self, ↓z_loadn, Nat.reduceLeDiff, Nat.le_refl, List.take_succ_cons, List.take_zero, z_ldv5, z_bs_int, hAt, z_app5 G X s S m b l _ _ _ hl, z_var5, z_ldr5, z_call0 (h8 _), AV.pub, Gr.pub, Loc.pub, rcs]
theorem f25_ok (m b x y : Int) (s S : St) (l : List Int) (hl : l.length < 9000) : callω T1 G X 25 [I x, I y, .ref (.g s.enter.depth 1) 0, .ref (.g s.enter.depth 0) 0] (reup S (s5 s m b l)) = .ok (I (subI m x y)) (reup S (s5 s m b (l ++ [4]))) := by
  rw [f25_call, f25_eq]
  have h8 := fun S => f26_ok G X m b x y S
  simp -implicitDefEqProofs only [rcs] at h8
  simp -implicitDefEqProofs only [↓z_ret, ↓z_val, ↓z_pick, ↓z_cond, ↓z_boxRo_agg, ↓z_boxRo_int, ↓z_boxRo_bool, ↓z_boxRo_str, ↓z_boxRo_sl, ↓z_boxRo_fn, ↓z_boxRo_vptr, ↓z_boxRo_ref, ↓z_len_sl, ↓z_len_msl, ↓z_len_str, ↓z_load1, ↓z_fa, ↓z_fa_ref, ↓z_callF, ↓z_andK, ↓z_orK, ↓z_and1, ↓z_and2, ↓z_and3, ↓z_and4, ↓z_and5, ↓z_and6, ↓z_and7, ↓z_and8, ↓z_and9, ↓z_and10, ↓z_and11, ↓z_and12, ↓z_or1, ↓z_or2, ↓z_or3, ↓z_or4, ↓z_or5, ↓z_or6, ↓z_or7, ↓z_or8, ↓z_or9, ↓z_or10, ↓z_or11, ↓z_or12, ↓z_add, ↓z_sub, ↓z_mul, ↓z_eql, ↓z_neq, ↓z_lss, ↓z_leq, ↓z_gtr, ↓z_geq, ↓z_not, ↓z_neg, ↓z_fin_int, ↓z_fin_bool, ↓z_fin_str, ↓z_ent_int, ↓z_ent_bool, ↓z_ent_str, ↓z_stn, ↓z_ldnn, ↓z_ldn0, ↓z_ldn1, ↓z_ldn2, ↓z_ldn3, ↓z_ldn4, ↓z_ldn5, ↓z_ldn6, ↓z_ldn7, ↓z_ldn8, List.drop_zero, List.drop_succ_cons, List.cons_append, List.nil_append, decide_eq_true_eq, decide_eq_false_iff_not, ite_not, ↓reduceIte, pub_agg, pub_int, pub_bool, pub_str, pub_fn, pub_vptr, pub_nilp, Nat.zero_add, List.length_cons, List.length_nil, Nat.reduceAdd, List.all_cons, List.all_nil, isCell_int, isCell_bool, isCell_str, isCell_sl, Bool.and_self, ↓z_loadn, Nat.reduceLeDiff, Nat.le_refl, List.take_succ_cons, List.take_zero, z_ldv5, z_bs_int, hAt, z_app5 G X s S m b l _ _ _ hl, z_var5, z_ldr5, z_call0 (h8 _), AV.pub, Gr.pub, Loc.pub, rcs]
theorem f27_ok (m b x y : Int) (s S : St) (l : List Int) (hl : l.length < 9000) : callω T1 G X 27 [I x, I y, .ref (.g s.enter.depth 1) 0, .ref (.g s.enter.depth 0) 0] (reup S (s5 s m b l)) = .ok (I (mulI m x y)) (reup S (s5 s m b (l ++ [5]))) := by
  rw [f27_call, f27_eq]
  have h8 := fun S => f28_ok G X m b x y S
  simp -implicitDefEqProofs only [rcs] at h8
  simp -implicitDefEqProofs only [↓z_ret, ↓z_val, ↓z_pick, ↓z_cond, ↓z_boxRo_agg, ↓z_boxRo_int, ↓z_boxRo_bool, ↓z_boxRo_str, ↓z_boxRo_sl, ↓z_boxRo_fn, ↓z_boxRo_vptr, ↓z_boxRo_ref, ↓z_len_sl, ↓z_len_msl, ↓z_len_str, ↓z_load1, ↓z_fa, ↓z_fa_ref, ↓z_callF, ↓z_andK, ↓z_orK, ↓z_and1, ↓z_and2, ↓z_and3, ↓z_and4, ↓z_and5, ↓z_and6, ↓z_and7, ↓z_and8, ↓z_and9, ↓z_and10, ↓z_and11, ↓z_and12, ↓z_or1, ↓z_or2, ↓z_or3, ↓z_or4, ↓z_or5, ↓z_or6, ↓z_or7, ↓z_or8, ↓z_or9, ↓z_or10, ↓z_or11, ↓z_or12, ↓z_add, ↓z_sub, ↓z_mul, ↓z_eql, ↓z_neq, ↓z_lss, ↓z_leq, ↓z_gtr, ↓z_geq, ↓z_not, ↓z_neg, ↓z_fin_int, ↓z_fin_bool, ↓z_fin_str, ↓z_ent_int, ↓z_ent_bool, ↓z_ent_str, ↓z_stn, ↓z_ldnn, ↓z_ldn0, ↓z_ldn1, ↓z_ldn2, ↓z_ldn3, ↓z_ldn4, ↓z_ldn5, ↓z_ldn6, ↓z_ldn7, ↓z_ldn8, List.drop_zero, List.drop_succ_cons, List.cons_append, List.nil_append, decide_eq_true_eq, decide_eq_false_iff_not, ite_not, ↓reduceIte, pub_agg, pub_int, pub_bool, pub_str, pub_fn, pub_vptr, pub_nilp, Nat.zero_add, List.length_cons, List.length_nil, Nat.reduceAdd, List.all_cons, List.all_nil, isCell_int, isCell_bool, isCell_str, isCell_sl, Bool.and_self, ↓z_loadn, Nat.reduceLeDiff, Nat.le_refl, List.take_succ_cons, List.take_zero, z_ldv5, z_bs_int, hAt, z_app5 G X s S m b l _ _ _ hl, z_var5, z_ldr5, z_call0 (h8 _), AV.pub, Gr.pub, Loc.pub, rcs]
theorem f29_ok (m b x y : Int) (s S : St) (l : List Int) (hl : l.length < 9000) : callω T1 G X 29 [I x, I y, .ref (.g s.enter.depth 1) 0, .ref (.g s.enter.depth 0) 0] (reup S (s5 s m b l)) = .ok (I (rootI m b x y)) (reup S (s5 s m b (l ++ [6]))) := by
  rw [f29_call, f29_eq]
  have h8 := fun S => f30_ok G X m b x y S
  simp -implicitDefEqProofs only [rcs] at h8
  simp -implicitDefEqProofs only [↓z_ret, ↓z_val, ↓z_pick, ↓z_cond, ↓z_boxRo_agg, ↓z_boxRo_int, ↓z_boxRo_bool, ↓z_boxRo_str, ↓z_boxRo_sl, ↓z_boxRo_fn, ↓z_boxRo_vptr, ↓z_boxRo_ref, ↓z_len_sl, ↓z_len_msl, ↓z_len_str, ↓z_load1, ↓z_fa, ↓z_fa_ref, ↓z_callF, ↓z_andK, ↓z_orK, ↓z_and1, ↓z_and2, ↓z_and3, ↓z_and4, ↓z_and5, ↓z_and6, ↓z_and7, ↓z_and8, ↓z_and9, ↓z_and10, ↓z_and11, ↓z_and12, ↓z_or1, ↓z_or2, ↓z_or3, ↓z_or4, ↓z_or5, ↓z_or6, ↓z_or7, ↓z_or8, ↓z_or9, ↓z_or10, ↓z_or11, ↓z_or12, ↓z_add, ↓z_sub, ↓z_mul, ↓z_eql, ↓z_neq, ↓z_lss, ↓z_leq, ↓z_gtr, ↓z_geq, ↓z_not, ↓z_neg, ↓z_fin_int, ↓z_fin_bool, ↓z_fin_str, ↓z_ent_int, ↓z_ent_bool, ↓z_ent_str, ↓z_stn, ↓z_ldnn, ↓z_ldn0, ↓z_ldn1, ↓z_ldn2, ↓z_ldn3, ↓z_ldn4, ↓z_ldn5, ↓z_ldn6, ↓z_ldn7, ↓z_ldn8, List.drop_zero, List.drop_succ_cons, List.cons_append, List.nil_append, decide_eq_true_eq, decide_eq_false_iff_not, ite_not, ↓reduceIte, pub_agg, pub_int, pub_bool, pub_str, pub_fn, pub_vptr, pub_nilp, Nat.zero_add, List.length_cons, List.length_nil, Nat.reduceAdd, List.all_cons, List.all_nil, isCell_int, isCell_bool, isCell_str, isCell_sl, Bool.and_self, ↓z_loadn, Nat.reduceLeDiff, Nat.le_refl, List.take_succ_cons, List.take_zero, z_ldv5, z_bs_int, hAt, z_app5 G X s S m b l _ _ _ hl, z_var5, z_ldr5, z_call0 (h8 _), AV.pub, Gr.pub, Loc.pub, rcs]
theorem reup_reup (S t u : St) : reup (reup S t) u = reup S u := rfl
theorem reup_dep (S : St) (s : St) (m b : Int) (l l' : List Int) : (reup S (s5 s m b l')).depth = (reup S (s5 s m b l)).depth := rfl
theorem ringOK_calls (m b : Int) (s : St) : RingOK G X (opsM m b) (s5 s m b) (.fn 22 [.ref (.g s.enter.depth 1) 0, .ref (.g s.enter.depth 0) 0]) (.fn 23 [.ref (.g s.enter.depth 1) 0, .ref (.g s.enter.depth 0) 0]) (.fn 25 [.ref (.g s.enter.depth 1) 0, .ref (.g s.enter.depth 0) 0]) (.fn 27 [.ref (.g s.enter.depth 1) 0, .ref (.g s.enter.depth 0) 0]) (.fn 29 [.ref (.g s.enter.depth 1) 0, .ref (.g s.enter.depth 0) 0]) where
  c := fun l n S k hl hS => by rw [z_callF]; have h := f22_ok G X m b n s S l hl; rw [reup_self hS] at h; exact z_call h (by rw [← reup_self hS]; rfl)
  add := fun l x y S k hl hS => by rw [z_callF]; have h := f23_ok G X m b x y s S l hl; rw [reup_self hS] at h; exact z_call h (by rw [← reup_self hS]; rfl)
  sub := fun l x y S k hl hS => by rw [z_callF]; have h := f25_ok G X m b x y s S l hl; rw [reup_self hS] at h; exact z_call h (by rw [← reup_self hS]; rfl)
  mul := fun l x y S k hl hS => by rw [z_callF]; have h := f27_ok G X m b x y s S l hl; rw [reup_self hS] at h; exact z_call h (by rw [← reup_self hS]; rfl)
  root := fun l x y S k hl hS => by rw [z_callF]; have h := f29_ok G X m b x y s S l hl; rw [reup_self hS] at h; exact z_call h (by rw [← reup_self hS]; rfl)
/-- The rule of a number and a choice. -/
def modOf (m : Int) : Int := if m < 0 ∨ 2147483647 < m then 0 else m
theorem z_build_rule (s : St) (k : K1) (x y : Int) : (PP T1 G X).build [.int .i64 0, .int .i64 0, .sl 1 [] .nil] [(0, 1, I x), (1, 1, I y)] s k = k (.agg (rcs x y)) s := rfl
theorem z_st_rule (s : St) (k : K1) (x y : Int) (cs : List AV) (h2 : cs.length = 3) : (PP T1 G X).store (s.new (.cells cs)) k 3 (.ref (.l s.own.length) 0) (.agg (rcs x y)) = k .dead (s.new (.cells (rcs x y))) := z_stn 3 _ _ rfl h2 rfl
theorem fin_rule (s : St) (x y : Int) : (PP T1 G X).fin false [hCell (s.enter.new (.cells (rcs x y))) (.ref (.l s.enter.own.length) 0) (some 3)] (s.enter.new (.cells (rcs x y))) = .ok (.agg (rcs x y)) s := rfl
theorem f15_ok (m b : Int) (s : St) : callω T1 G X 15 [I m, I b] s = .ok (.agg (rcs (modOf m) b)) s := by
  rw [f15_call, f15_eq]
  unfold modOf
  have fr := fin_rule G X s
  by_cases h1 : m < 0
  · simp -implicitDefEqProofs only [↓z_ret, ↓z_val, ↓z_pick, ↓z_cond, ↓z_boxRo_agg, ↓z_boxRo_int, ↓z_boxRo_bool, ↓z_boxRo_str, ↓z_boxRo_sl, ↓z_boxRo_fn, ↓z_boxRo_vptr, ↓z_boxRo_ref, ↓z_len_sl, ↓z_len_msl, ↓z_len_str, ↓z_load1, ↓z_fa, ↓z_fa_ref, ↓z_callF, ↓z_andK, ↓z_orK, ↓z_and1, ↓z_and2, ↓z_and3, ↓z_and4, ↓z_and5, ↓z_and6, ↓z_and7, ↓z_and8, ↓z_and9, ↓z_and10, ↓z_and11, ↓z_and12, ↓z_or1, ↓z_or2, ↓z_or3, ↓z_or4, ↓z_or5, ↓z_or6, ↓z_or7, ↓z_or8, ↓z_or9, ↓z_or10, ↓z_or11, ↓z_or12, ↓z_add, ↓z_sub, ↓z_mul, ↓z_eql, ↓z_neq, ↓z_lss, ↓z_leq, ↓z_gtr, ↓z_geq, ↓z_not, ↓z_neg, ↓z_fin_int, ↓z_fin_bool, ↓z_fin_str, ↓z_ent_int, ↓z_ent_bool, ↓z_ent_str, ↓z_stn, ↓z_ldnn, ↓z_ldn0, ↓z_ldn1, ↓z_ldn2, ↓z_ldn3, ↓z_ldn4, ↓z_ldn5, ↓z_ldn6, ↓z_ldn7, ↓z_ldn8, List.drop_zero, List.drop_succ_cons, List.cons_append, List.nil_append, decide_eq_true_eq, decide_eq_false_iff_not, ite_not, ↓reduceIte, pub_agg, pub_int, pub_bool, pub_str, pub_fn, pub_vptr, pub_nilp, Nat.zero_add, List.length_cons, List.length_nil, Nat.reduceAdd, List.all_cons, List.all_nil, isCell_int, isCell_bool, isCell_str, isCell_sl, Bool.and_self, ↓z_loadn, Nat.reduceLeDiff, Nat.le_refl, List.take_succ_cons, List.take_zero, eq_true h1, decide_true, true_or, if_true, f15_j1_eq _ (PP_ok _ _ _), ↓z_build_rule, ↓z_st_rule G X _ _ _ _ [.int .i64 0, .int .i64 0, .sl 1 [] .nil] rfl, ↓fr]
  · by_cases h2 : 2147483647 < m
    · simp -implicitDefEqProofs only [↓z_ret, ↓z_val, ↓z_pick, ↓z_cond, ↓z_boxRo_agg, ↓z_boxRo_int, ↓z_boxRo_bool, ↓z_boxRo_str, ↓z_boxRo_sl, ↓z_boxRo_fn, ↓z_boxRo_vptr, ↓z_boxRo_ref, ↓z_len_sl, ↓z_len_msl, ↓z_len_str, ↓z_load1, ↓z_fa, ↓z_fa_ref, ↓z_callF, ↓z_andK, ↓z_orK, ↓z_and1, ↓z_and2, ↓z_and3, ↓z_and4, ↓z_and5, ↓z_and6, ↓z_and7, ↓z_and8, ↓z_and9, ↓z_and10, ↓z_and11, ↓z_and12, ↓z_or1, ↓z_or2, ↓z_or3, ↓z_or4, ↓z_or5, ↓z_or6, ↓z_or7, ↓z_or8, ↓z_or9, ↓z_or10, ↓z_or11, ↓z_or12, ↓z_add, ↓z_sub, ↓z_mul, ↓z_eql, ↓z_neq, ↓z_lss, ↓z_leq, ↓z_gtr, ↓z_geq, ↓z_not, ↓z_neg, ↓z_fin_int, ↓z_fin_bool, ↓z_fin_str, ↓z_ent_int, ↓z_ent_bool, ↓z_ent_str, ↓z_stn, ↓z_ldnn, ↓z_ldn0, ↓z_ldn1, ↓z_ldn2, ↓z_ldn3, ↓z_ldn4, ↓z_ldn5, ↓z_ldn6, ↓z_ldn7, ↓z_ldn8, List.drop_zero, List.drop_succ_cons, List.cons_append, List.nil_append, decide_eq_true_eq, decide_eq_false_iff_not, ite_not, ↓reduceIte, pub_agg, pub_int, pub_bool, pub_str, pub_fn, pub_vptr, pub_nilp, Nat.zero_add, List.length_cons, List.length_nil, Nat.reduceAdd, List.all_cons, List.all_nil, isCell_int, isCell_bool, isCell_str, isCell_sl, Bool.and_self, ↓z_loadn, Nat.reduceLeDiff, Nat.le_refl, List.take_succ_cons, List.take_zero, eq_false h1, eq_true h2, decide_true, decide_false, Bool.false_eq_true, or_true, if_true, f15_j1_eq _ (PP_ok _ _ _), ↓z_build_rule, ↓z_st_rule G X _ _ _ _ [.int .i64 0, .int .i64 0, .sl 1 [] .nil] rfl, ↓fr]
    · simp -implicitDefEqProofs only [↓z_ret, ↓z_val, ↓z_pick, ↓z_cond, ↓z_boxRo_agg, ↓z_boxRo_int, ↓z_boxRo_bool, ↓z_boxRo_str, ↓z_boxRo_sl, ↓z_boxRo_fn, ↓z_boxRo_vptr, ↓z_boxRo_ref, ↓z_len_sl, ↓z_len_msl, ↓z_len_str, ↓z_load1, ↓z_fa, ↓z_fa_ref, ↓z_callF, ↓z_andK, ↓z_orK, ↓z_and1, ↓z_and2, ↓z_and3, ↓z_and4, ↓z_and5, ↓z_and6, ↓z_and7, ↓z_and8, ↓z_and9, ↓z_and10, ↓z_and11, ↓z_and12, ↓z_or1, ↓z_or2, ↓z_or3, ↓z_or4, ↓z_or5, ↓z_or6, ↓z_or7, ↓z_or8, ↓z_or9, ↓z_or10, ↓z_or11, ↓z_or12, ↓z_add, ↓z_sub, ↓z_mul, ↓z_eql, ↓z_neq, ↓z_lss, ↓z_leq, ↓z_gtr, ↓z_geq, ↓z_not, ↓z_neg, ↓z_fin_int, ↓z_fin_bool, ↓z_fin_str, ↓z_ent_int, ↓z_ent_bool, ↓z_ent_str, ↓z_stn, ↓z_ldnn, ↓z_ldn0, ↓z_ldn1, ↓z_ldn2, ↓z_ldn3, ↓z_ldn4, ↓z_ldn5, ↓z_ldn6, ↓z_ldn7, ↓z_ldn8, List.drop_zero, List.drop_succ_cons, List.cons_append, List.nil_append, decide_eq_true_eq, decide_eq_false_iff_not, ite_not, ↓reduceIte, pub_agg, pub_int, pub_bool, pub_str, pub_fn, pub_vptr, pub_nilp, Nat.zero_add, List.length_cons, List.length_nil, Nat.reduceAdd, List.all_cons, List.all_nil, isCell_int, isCell_bool, isCell_str, isCell_sl, Bool.and_self, ↓z_loadn, Nat.reduceLeDiff, Nat.le_refl, List.take_succ_cons, List.take_zero, eq_false h1, eq_false h2, decide_false, Bool.false_eq_true, or_self, if_false, f15_j1_eq _ (PP_ok _ _ _), ↓z_build_rule, ↓z_st_rule G X _ _ _ _ [.int .i64 0, .int .i64 0, .sl 1 [] .nil] rfl, ↓fr]
end Go.AbZ
end
section
namespace Go.AbZ
open Go.Ab
variable (G : Nat → AV) (X : Nat → List AV → St → Res)
set_option linter.unusedSimpArgs false
set_option linter.unusedVariables false
theorem pub_sl (d sz : Nat) (es : List AV) (g : Gr) : AV.pub d (.sl sz es g) = .sl sz es (g.pub d) := rfl
theorem f5_l2_ok (p : Prog) (s : St) (L : List Int) (gL : Gr) (h8 : p.ins.length ≤ 8192) : ∀ (n i : Nat) (w : List Int) (S : St) (g : Gr), i + n = p.ins.length → w.length ≤ i → Child s S → S.own[1]? = some (.cells [.sl 1 (L.map I) gL]) → Grow S g w.length → w ++ logs (p.ins.drop i) = L →
    f5_l2 (PP T1 G X) (.vptr p.cs) (.bool true) (.ref (.l 1) 0) (.int .i64 0) (.sl 1 (w.map I) g) (.int .i64 (i : Int)) S = .ok (.bool true) s := by
  intro n
  induction n with
  | zero =>
    intro i w S g hi hwl hS h1 hg hw
    have h : ¬ ((i : Int) < (p.ins.length : Int)) := by omega
    rw [List.drop_of_length_le (by omega)] at hw
    simp -implicitDefEqProofs only [logs, List.append_nil] at hw
    subst hw
    have h32 := fun ga gb => f32_ok G X w w ga gb S (by omega)
    simp -implicitDefEqProofs only [sl1] at h32
    rw [f5_l2_eq _ (PP_ok _ _ _)]
    simp -implicitDefEqProofs only [↓z_ret, ↓z_val, ↓z_pick, ↓z_cond, ↓z_boxRo_agg, ↓z_boxRo_int, ↓z_boxRo_bool, ↓z_boxRo_str, ↓z_boxRo_sl, ↓z_boxRo_fn, ↓z_boxRo_vptr, ↓z_boxRo_ref, ↓z_len_sl, ↓z_len_msl, ↓z_len_str, ↓z_load1, ↓z_fa, ↓z_fa_ref, ↓z_callF, ↓z_andK, ↓z_orK, ↓z_and1, ↓z_and2, ↓z_and3, ↓z_and4, ↓z_and5, ↓z_and6, ↓z_and7, ↓z_and8, ↓z_and9, ↓z_and10, ↓z_and11, ↓z_and12, ↓z_or1, ↓z_or2, ↓z_or3, ↓z_or4, ↓z_or5, ↓z_or6, ↓z_or7, ↓z_or8, ↓z_or9, ↓z_or10, ↓z_or11, ↓z_or12, ↓z_add, ↓z_sub, ↓z_mul, ↓z_eql, ↓z_neq, ↓z_lss, ↓z_leq, ↓z_gtr, ↓z_geq, ↓z_not, ↓z_neg, ↓z_fin_int, ↓z_fin_bool, ↓z_fin_str, ↓z_ent_int, ↓z_ent_bool, ↓z_ent_str, ↓z_stn, ↓z_ldnn, ↓z_ldn0, ↓z_ldn1, ↓z_ldn2, ↓z_ldn3, ↓z_ldn4, ↓z_ldn5, ↓z_ldn6, ↓z_ldn7, ↓z_ldn8, List.drop_zero, List.drop_succ_cons, List.cons_append, List.nil_append, decide_eq_true_eq, decide_eq_false_iff_not, ite_not, ↓reduceIte, pub_agg, pub_int, pub_bool, pub_str, pub_fn, pub_vptr, pub_nilp, Nat.zero_add, List.length_cons, List.length_nil, Nat.reduceAdd, List.all_cons, List.all_nil, isCell_int, isCell_bool, isCell_str, isCell_sl, Bool.and_self, ↓z_loadn, Nat.reduceLeDiff, Nat.le_refl, List.take_succ_cons, List.take_zero, Prog.cs, List.length_map, eq_false h, decide_false, Bool.false_eq_true, f5_j5_eq _ (PP_ok _ _ _), z_ld_own h1 (o := 0) rfl, pub_sl, z_call0 (h32 _ _), decide_true, z_finC_bool hS]
  | succ n ih =>
    intro i w S g hi hwl hS h1 hg hw
    have h : (i : Int) < (p.ins.length : Int) := by omega
    have hlt : i < p.ins.length := by omega
    obtain ⟨x, hx⟩ : ∃ x, p.ins[i]? = some x := ⟨_, List.getElem?_eq_getElem hlt⟩
    have ea : (p.ins.map Ins.enc)[i]? = some x.enc := by simp [hx]
    have hx' := (List.getElem?_eq_some_iff.1 hx).2
    rw [List.drop_eq_getElem_cons hlt, hx'] at hw
    simp -implicitDefEqProofs only [logs] at hw
    have hw1 : IntKind.wrap .i64 ((i : Int) + 1) = ((i + 1 : Nat) : Int) := wrap_succ i (by omega)
    rw [f5_l2_eq _ (PP_ok _ _ _)]
    by_cases hop : x.op = 1
    · rw [log1, if_pos hop, List.nil_append] at hw
      have := ih (i + 1) w S g (by omega) (by omega) hS h1 hg hw
      simp -implicitDefEqProofs only [Prog.cs] at this
      simp -implicitDefEqProofs only [↓z_ret, ↓z_val, ↓z_pick, ↓z_cond, ↓z_boxRo_agg, ↓z_boxRo_int, ↓z_boxRo_bool, ↓z_boxRo_str, ↓z_boxRo_sl, ↓z_boxRo_fn, ↓z_boxRo_vptr, ↓z_boxRo_ref, ↓z_len_sl, ↓z_len_msl, ↓z_len_str, ↓z_load1, ↓z_fa, ↓z_fa_ref, ↓z_callF, ↓z_andK, ↓z_orK, ↓z_and1, ↓z_and2, ↓z_and3, ↓z_and4, ↓z_and5, ↓z_and6, ↓z_and7, ↓z_and8, ↓z_and9, ↓z_and10, ↓z_and11, ↓z_and12, ↓z_or1, ↓z_or2, ↓z_or3, ↓z_or4, ↓z_or5, ↓z_or6, ↓z_or7, ↓z_or8, ↓z_or9, ↓z_or10, ↓z_or11, ↓z_or12, ↓z_add, ↓z_sub, ↓z_mul, ↓z_eql, ↓z_neq, ↓z_lss, ↓z_leq, ↓z_gtr, ↓z_geq, ↓z_not, ↓z_neg, ↓z_fin_int, ↓z_fin_bool, ↓z_fin_str, ↓z_ent_int, ↓z_ent_bool, ↓z_ent_str, ↓z_stn, ↓z_ldnn, ↓z_ldn0, ↓z_ldn1, ↓z_ldn2, ↓z_ldn3, ↓z_ldn4, ↓z_ldn5, ↓z_ldn6, ↓z_ldn7, ↓z_ldn8, List.drop_zero, List.drop_succ_cons, List.cons_append, List.nil_append, decide_eq_true_eq, decide_eq_false_iff_not, ite_not, ↓reduceIte, pub_agg, pub_int, pub_bool, pub_str, pub_fn, pub_vptr, pub_nilp, Nat.zero_add, List.length_cons, List.length_nil, Nat.reduceAdd, List.all_cons, List.all_nil, isCell_int, isCell_bool, isCell_str, isCell_sl, Bool.and_self, ↓z_loadn, Nat.reduceLeDiff, Nat.le_refl, List.take_succ_cons, List.take_zero, Prog.cs, List.length_map, eq_true h, decide_true, f5_j3_eq _ (PP_ok _ _ _), z_idx _ _ _ _ _ _ ea, Ins.enc, Ins.cs, AV.cells, eq_true hop, not_true_eq_false, decide_false, Bool.false_eq_true, f5_j4_eq _ (PP_ok _ _ _), hw1]
      exact this
    · rw [log1, if_neg hop] at hw
      simp -implicitDefEqProofs only [↓z_ret, ↓z_val, ↓z_pick, ↓z_cond, ↓z_boxRo_agg, ↓z_boxRo_int, ↓z_boxRo_bool, ↓z_boxRo_str, ↓z_boxRo_sl, ↓z_boxRo_fn, ↓z_boxRo_vptr, ↓z_boxRo_ref, ↓z_len_sl, ↓z_len_msl, ↓z_len_str, ↓z_load1, ↓z_fa, ↓z_fa_ref, ↓z_callF, ↓z_andK, ↓z_orK, ↓z_and1, ↓z_and2, ↓z_and3, ↓z_and4, ↓z_and5, ↓z_and6, ↓z_and7, ↓z_and8, ↓z_and9, ↓z_and10, ↓z_and11, ↓z_and12, ↓z_or1, ↓z_or2, ↓z_or3, ↓z_or4, ↓z_or5, ↓z_or6, ↓z_or7, ↓z_or8, ↓z_or9, ↓z_or10, ↓z_or11, ↓z_or12, ↓z_add, ↓z_sub, ↓z_mul, ↓z_eql, ↓z_neq, ↓z_lss, ↓z_leq, ↓z_gtr, ↓z_geq, ↓z_not, ↓z_neg, ↓z_fin_int, ↓z_fin_bool, ↓z_fin_str, ↓z_ent_int, ↓z_ent_bool, ↓z_ent_str, ↓z_stn, ↓z_ldnn, ↓z_ldn0, ↓z_ldn1, ↓z_ldn2, ↓z_ldn3, ↓z_ldn4, ↓z_ldn5, ↓z_ldn6, ↓z_ldn7, ↓z_ldn8, List.drop_zero, List.drop_succ_cons, List.cons_append, List.nil_append, decide_eq_true_eq, decide_eq_false_iff_not, ite_not, ↓reduceIte, pub_agg, pub_int, pub_bool, pub_str, pub_fn, pub_vptr, pub_nilp, Nat.zero_add, List.length_cons, List.length_nil, Nat.reduceAdd, List.all_cons, List.all_nil, isCell_int, isCell_bool, isCell_str, isCell_sl, Bool.and_self, ↓z_loadn, Nat.reduceLeDiff, Nat.le_refl, List.take_succ_cons, List.take_zero, Prog.cs, List.length_map, eq_true h, decide_true, f5_j3_eq _ (PP_ok _ _ _), z_idx _ _ _ _ _ _ ea, Ins.enc, Ins.cs, AV.cells, eq_false hop, not_false_eq_true, z_bs_int]
      refine z_append (by simpa using hg) (by simp) (by simp; omega) (by simp [isCell_int, AV.cells]) fun g' S' hg' _ _ _ hG => ?_
      rw [f5_j4_eq _ (PP_ok _ _ _)]
      simp -implicitDefEqProofs only [↓z_ret, ↓z_val, ↓z_pick, ↓z_cond, ↓z_boxRo_agg, ↓z_boxRo_int, ↓z_boxRo_bool, ↓z_boxRo_str, ↓z_boxRo_sl, ↓z_boxRo_fn, ↓z_boxRo_vptr, ↓z_boxRo_ref, ↓z_len_sl, ↓z_len_msl, ↓z_len_str, ↓z_load1, ↓z_fa, ↓z_fa_ref, ↓z_callF, ↓z_andK, ↓z_orK, ↓z_and1, ↓z_and2, ↓z_and3, ↓z_and4, ↓z_and5, ↓z_and6, ↓z_and7, ↓z_and8, ↓z_and9, ↓z_and10, ↓z_and11, ↓z_and12, ↓z_or1, ↓z_or2, ↓z_or3, ↓z_or4, ↓z_or5, ↓z_or6, ↓z_or7, ↓z_or8, ↓z_or9, ↓z_or10, ↓z_or11, ↓z_or12, ↓z_add, ↓z_sub, ↓z_mul, ↓z_eql, ↓z_neq, ↓z_lss, ↓z_leq, ↓z_gtr, ↓z_geq, ↓z_not, ↓z_neg, ↓z_fin_int, ↓z_fin_bool, ↓z_fin_str, ↓z_ent_int, ↓z_ent_bool, ↓z_ent_str, ↓z_stn, ↓z_ldnn, ↓z_ldn0, ↓z_ldn1, ↓z_ldn2, ↓z_ldn3, ↓z_ldn4, ↓z_ldn5, ↓z_ldn6, ↓z_ldn7, ↓z_ldn8, List.drop_zero, List.drop_succ_cons, List.cons_append, List.nil_append, decide_eq_true_eq, decide_eq_false_iff_not, ite_not, ↓reduceIte, pub_agg, pub_int, pub_bool, pub_str, pub_fn, pub_vptr, pub_nilp, Nat.zero_add, List.length_cons, List.length_nil, Nat.reduceAdd, List.all_cons, List.all_nil, isCell_int, isCell_bool, isCell_str, isCell_sl, Bool.and_self, ↓z_loadn, Nat.reduceLeDiff, Nat.le_refl, List.take_succ_cons, List.take_zero, hw1]
      have hne : g ≠ .buf (.l 1) := by
        intro e
        subst e
        cases hg with
        | buf j n hn h2 =>
          rw [h1] at h2
          cases h2
      have := ih (i + 1) (w ++ [x.op]) S' g' (by omega) (by simp; omega) (hG.child hS) (hG.own 1 _ h1 hne) (by simpa using hg') (by rw [← hw]; simp)
      rw [List.map_append] at this
      simp -implicitDefEqProofs only [Prog.cs] at this
      exact this
end Go.AbZ
end
section
namespace Go.AbZ
open Go.Ab
variable (G : Nat → AV) (X : Nat → List AV → St → Res)
set_option linter.unusedSimpArgs false
set_option linter.unusedVariables false
theorem z_ext0 {T : Nat → Option AFn} {s : St} {k : K1} (a b : AV) : (PP T G X).extract s k 0 (.tup [a, b]) = k a s := z_extract _ _ _ rfl
theorem z_ext1 {T : Nat → Option AFn} {s : St} {k : K1} (a b : AV) : (PP T G X).extract s k 1 (.tup [a, b]) = k b s := z_extract _ _ _ rfl
theorem new_len (s : St) (o : AObj) : (s.new o).own.length = s.own.length + 1 := by simp [St.new]
theorem enter_len (s : St) : s.enter.own.length = 0 := rfl
theorem pub_ref (d i o : Nat) : AV.pub d (.ref (.l i) o) = .ref (.g d i) o := rfl
theorem s5_nil (s : St) (m b : Int) : s5 s m b [] = (((s.enter.new (.cells (rcs m b))).new (.cells [.sl 1 [] .nil])).new (.cells (ring5 s.enter.depth))) := rfl
theorem z_build5 (s : St) (k : K1) (f1 f2 f3 f4 f5 : Nat) (c1 c2 c3 c4 c5 : List AV) : (PP T1 G X).build [.nilf, .nilf, .nilf, .nilf, .nilf] [(0, 1, .fn f1 c1), (1, 1, .fn f2 c2), (2, 1, .fn f3 c3), (3, 1, .fn f4 c4), (4, 1, .fn f5 c5)] s k = k (.agg [.fn f1 c1, .fn f2 c2, .fn f3 c3, .fn f4 c4, .fn f5 c5]) s := rfl
theorem z_st5 (s : St) (k : K1) (cs : List AV) (h2 : cs.length = 5) (f1 f2 f3 f4 f5 : Nat) (c1 c2 c3 c4 c5 : List AV) : (PP T1 G X).store (s.new (.cells cs)) k 5 (.ref (.l s.own.length) 0) (.agg [.fn f1 c1, .fn f2 c2, .fn f3 c3, .fn f4 c4, .fn f5 c5]) = k .dead (s.new (.cells [.fn f1 c1, .fn f2 c2, .fn f3 c3, .fn f4 c4, .fn f5 c5])) := z_stn 5 _ _ rfl h2 rfl
theorem ld5r (s : St) (m b : Int) (l : List Int) (k : K1) : (PP T1 G X).load (s5 s m b l) k (some 3) (.ref (.l 0) 0) = k (.agg (rcs m b)) (s5 s m b l) := rfl
/-- Run of a program that is not well-formed, or with another number of inputs. -/
theorem f19_bad (p : Prog) (inp : List Int) (gi : Gr) (rv : AV) (cs : List AV) (hrv : rv = .agg cs) (s : St) (hv : p.vals.length ≤ 9223372036854775807) (hvv : ∀ v, v ∈ p.vals → v.1.length ≤ 9223372036854775807) (e : Int) (he : (¬ p.check = 0 ∧ e = p.check) ∨ (p.check = 0 ∧ ¬ (inp.length : Int) = p.inputs ∧ e = 1)) :
    callω T1 G X 19 [p.enc, rv, sl1 inp gi] s = .ok (.tup [.sl 1 [] .nil, I e]) s := by
  subst hrv
  rw [f19_call, f19_eq]
  have h7 := f52_ok G X p s.enter hv hvv
  simp -implicitDefEqProofs only [Prog.enc, Prog.cs] at h7
  rcases he with ⟨hc, rfl⟩ | ⟨hc, hin, rfl⟩
  · simp -implicitDefEqProofs only [Prog.enc, Prog.cs, sl1, ↓z_ret, ↓z_val, ↓z_pick, ↓z_cond, ↓z_boxRo_agg, ↓z_boxRo_int, ↓z_boxRo_bool, ↓z_boxRo_str, ↓z_boxRo_sl, ↓z_boxRo_fn, ↓z_boxRo_vptr, ↓z_boxRo_ref, ↓z_len_sl, ↓z_len_msl, ↓z_len_str, ↓z_load1, ↓z_fa, ↓z_fa_ref, ↓z_callF, ↓z_andK, ↓z_orK, ↓z_and1, ↓z_and2, ↓z_and3, ↓z_and4, ↓z_and5, ↓z_and6, ↓z_and7, ↓z_and8, ↓z_and9, ↓z_and10, ↓z_and11, ↓z_and12, ↓z_or1, ↓z_or2, ↓z_or3, ↓z_or4, ↓z_or5, ↓z_or6, ↓z_or7, ↓z_or8, ↓z_or9, ↓z_or10, ↓z_or11, ↓z_or12, ↓z_add, ↓z_sub, ↓z_mul, ↓z_eql, ↓z_neq, ↓z_lss, ↓z_leq, ↓z_gtr, ↓z_geq, ↓z_not, ↓z_neg, ↓z_fin_int, ↓z_fin_bool, ↓z_fin_str, ↓z_ent_int, ↓z_ent_bool, ↓z_ent_str, ↓z_stn, ↓z_ldnn, ↓z_ldn0, ↓z_ldn1, ↓z_ldn2, ↓z_ldn3, ↓z_ldn4, ↓z_ldn5, ↓z_ldn6, ↓z_ldn7, ↓z_ldn8, List.drop_zero, List.drop_succ_cons, List.cons_append, List.nil_append, decide_eq_true_eq, decide_eq_false_iff_not, ite_not, ↓reduceIte, pub_agg, pub_int, pub_bool, pub_str, pub_fn, pub_vptr, pub_nilp, Nat.zero_add, List.length_cons, List.length_nil, Nat.reduceAdd, List.all_cons, List.all_nil, isCell_int, isCell_bool, isCell_str, isCell_sl, Bool.and_self, ↓z_loadn, Nat.reduceLeDiff, Nat.le_refl, List.take_succ_cons, List.take_zero, z_call0 h7, eq_false hc, not_false_eq_true, decide_true]
    exact z_finC2 (.enter s) _ _ _ _ rfl rfl
  · simp -implicitDefEqProofs only [Prog.enc, Prog.cs, sl1, ↓z_ret, ↓z_val, ↓z_pick, ↓z_cond, ↓z_boxRo_agg, ↓z_boxRo_int, ↓z_boxRo_bool, ↓z_boxRo_str, ↓z_boxRo_sl, ↓z_boxRo_fn, ↓z_boxRo_vptr, ↓z_boxRo_ref, ↓z_len_sl, ↓z_len_msl, ↓z_len_str, ↓z_load1, ↓z_fa, ↓z_fa_ref, ↓z_callF, ↓z_andK, ↓z_orK, ↓z_and1, ↓z_and2, ↓z_and3, ↓z_and4, ↓z_and5, ↓z_and6, ↓z_and7, ↓z_and8, ↓z_and9, ↓z_and10, ↓z_and11, ↓z_and12, ↓z_or1, ↓z_or2, ↓z_or3, ↓z_or4, ↓z_or5, ↓z_or6, ↓z_or7, ↓z_or8, ↓z_or9, ↓z_or10, ↓z_or11, ↓z_or12, ↓z_add, ↓z_sub, ↓z_mul, ↓z_eql, ↓z_neq, ↓z_lss, ↓z_leq, ↓z_gtr, ↓z_geq, ↓z_not, ↓z_neg, ↓z_fin_int, ↓z_fin_bool, ↓z_fin_str, ↓z_ent_int, ↓z_ent_bool, ↓z_ent_str, ↓z_stn, ↓z_ldnn, ↓z_ldn0, ↓z_ldn1, ↓z_ldn2, ↓z_ldn3, ↓z_ldn4, ↓z_ldn5, ↓z_ldn6, ↓z_ldn7, ↓z_ldn8, List.drop_zero, List.drop_succ_cons, List.cons_append, List.nil_append, decide_eq_true_eq, decide_eq_false_iff_not, ite_not, ↓reduceIte, pub_agg, pub_int, pub_bool, pub_str, pub_fn, pub_vptr, pub_nilp, Nat.zero_add, List.length_cons, List.length_nil, Nat.reduceAdd, List.all_cons, List.all_nil, isCell_int, isCell_bool, isCell_str, isCell_sl, Bool.and_self, ↓z_loadn, Nat.reduceLeDiff, Nat.le_refl, List.take_succ_cons, List.take_zero, z_call0 h7, eq_true hc, not_true_eq_false, decide_false, Bool.false_eq_true, f19_j1_eq _ (PP_ok _ _ _), List.length_map, eq_false hin, not_false_eq_true, decide_true]
    exact z_finC2 (.enter s) _ _ _ _ rfl rfl
/-- What follows the two runs. -/
theorem f5_end (p : Prog) (s : St) (M b e : Int) (L V W : List Int) (gV gW : Gr) (h8 : e = 0 → p.ins.length ≤ 8192) (hVW : V = W) (hl : V.length ≤ 8192) (hL : L = if e = 0 then logs p.ins else []) (v3 : AV) (h3 : v3 = .vptr p.cs) :
    (PP T1 G X).val (s5 s M b L) (fun v45 s_11 => orK v45 (fun k => (PP T1 G X).call s_11 (fun x3 s3 => (PP T1 G X).val s3 k (unV UnOp.not x3)) 32 [AV.pub s_11.depth (.sl 1 (V.map I) gV), AV.pub s_11.depth (.sl 1 (W.map I) gW)]) s_11 fun v51 s_12 =>
      (PP T1 G X).cond v51 ((PP T1 G X).fin false [some (AV.bool false)] s_12) (f5_j1 (PP T1 G X) v3 (.bool true) (.ref (.l 1) 0) (I e) s_12)) (binV .neq (I e) (I e)) = .ok (.bool true) s := by
  subst hVW h3
  have h32 := fun ga gb => f32_ok G X V V ga gb (s5 s M b L) (by omega)
  simp -implicitDefEqProofs only [sl1] at h32
  simp -implicitDefEqProofs only [↓z_ret, ↓z_val, ↓z_pick, ↓z_cond, ↓z_boxRo_agg, ↓z_boxRo_int, ↓z_boxRo_bool, ↓z_boxRo_str, ↓z_boxRo_sl, ↓z_boxRo_fn, ↓z_boxRo_vptr, ↓z_boxRo_ref, ↓z_len_sl, ↓z_len_msl, ↓z_len_str, ↓z_load1, ↓z_fa, ↓z_fa_ref, ↓z_callF, ↓z_andK, ↓z_orK, ↓z_and1, ↓z_and2, ↓z_and3, ↓z_and4, ↓z_and5, ↓z_and6, ↓z_and7, ↓z_and8, ↓z_and9, ↓z_and10, ↓z_and11, ↓z_and12, ↓z_or1, ↓z_or2, ↓z_or3, ↓z_or4, ↓z_or5, ↓z_or6, ↓z_or7, ↓z_or8, ↓z_or9, ↓z_or10, ↓z_or11, ↓z_or12, ↓z_add, ↓z_sub, ↓z_mul, ↓z_eql, ↓z_neq, ↓z_lss, ↓z_leq, ↓z_gtr, ↓z_geq, ↓z_not, ↓z_neg, ↓z_fin_int, ↓z_fin_bool, ↓z_fin_str, ↓z_ent_int, ↓z_ent_bool, ↓z_ent_str, ↓z_stn, ↓z_ldnn, ↓z_ldn0, ↓z_ldn1, ↓z_ldn2, ↓z_ldn3, ↓z_ldn4, ↓z_ldn5, ↓z_ldn6, ↓z_ldn7, ↓z_ldn8, List.drop_zero, List.drop_succ_cons, List.cons_append, List.nil_append, decide_eq_true_eq, decide_eq_false_iff_not, ite_not, ↓reduceIte, pub_agg, pub_int, pub_bool, pub_str, pub_fn, pub_vptr, pub_nilp, Nat.zero_add, List.length_cons, List.length_nil, Nat.reduceAdd, List.all_cons, List.all_nil, isCell_int, isCell_bool, isCell_str, isCell_sl, Bool.and_self, ↓z_loadn, Nat.reduceLeDiff, Nat.le_refl, List.take_succ_cons, List.take_zero, not_true_eq_false, decide_false, Bool.false_eq_true, pub_sl, z_call0 (h32 _ _), decide_true, Bool.not_true, Bool.false_eq_true, f5_j1_eq _ (PP_ok _ _ _)]
  have hC : Child s (s5 s M b L) := ⟨rfl, rfl⟩
  by_cases he : e = 0
  · subst he
    rw [if_pos rfl] at hL
    have := f5_l2_ok G X p s L (g5 s.enter.depth L) (h8 rfl) p.ins.length 0 [] (s5 s M b L) .nil (by omega) (by simp) hC rfl .nil (by simp [hL])
    simp -implicitDefEqProofs only [Int.natCast_zero, List.map_nil] at this
    exact this
  · rw [if_neg he] at hL
    subst hL
    have h32' := fun ga gb => f32_ok G X [] [] ga gb (s5 s M b []) (by simp)
    simp -implicitDefEqProofs only [sl1, List.map_nil] at h32'
    have h1 : (s5 s M b []).own[1]? = some (.cells [.sl 1 [] .nil]) := rfl
    rw [f5_l2_eq _ (PP_ok _ _ _)]
    by_cases hn : (0 : Int) < (p.ins.length : Int)
    · simp -implicitDefEqProofs only [↓z_ret, ↓z_val, ↓z_pick, ↓z_cond, ↓z_boxRo_agg, ↓z_boxRo_int, ↓z_boxRo_bool, ↓z_boxRo_str, ↓z_boxRo_sl, ↓z_boxRo_fn, ↓z_boxRo_vptr, ↓z_boxRo_ref, ↓z_len_sl, ↓z_len_msl, ↓z_len_str, ↓z_load1, ↓z_fa, ↓z_fa_ref, ↓z_callF, ↓z_andK, ↓z_orK, ↓z_and1, ↓z_and2, ↓z_and3, ↓z_and4, ↓z_and5, ↓z_and6, ↓z_and7, ↓z_and8, ↓z_and9, ↓z_and10, ↓z_and11, ↓z_and12, ↓z_or1, ↓z_or2, ↓z_or3, ↓z_or4, ↓z_or5, ↓z_or6, ↓z_or7, ↓z_or8, ↓z_or9, ↓z_or10, ↓z_or11, ↓z_or12, ↓z_add, ↓z_sub, ↓z_mul, ↓z_eql, ↓z_neq, ↓z_lss, ↓z_leq, ↓z_gtr, ↓z_geq, ↓z_not, ↓z_neg, ↓z_fin_int, ↓z_fin_bool, ↓z_fin_str, ↓z_ent_int, ↓z_ent_bool, ↓z_ent_str, ↓z_stn, ↓z_ldnn, ↓z_ldn0, ↓z_ldn1, ↓z_ldn2, ↓z_ldn3, ↓z_ldn4, ↓z_ldn5, ↓z_ldn6, ↓z_ldn7, ↓z_ldn8, List.drop_zero, List.drop_succ_cons, List.cons_append, List.nil_append, decide_eq_true_eq, decide_eq_false_iff_not, ite_not, ↓reduceIte, pub_agg, pub_int, pub_bool, pub_str, pub_fn, pub_vptr, pub_nilp, Nat.zero_add, List.length_cons, List.length_nil, Nat.reduceAdd, List.all_cons, List.all_nil, isCell_int, isCell_bool, isCell_str, isCell_sl, Bool.and_self, ↓z_loadn, Nat.reduceLeDiff, Nat.le_refl, List.take_succ_cons, List.take_zero, Prog.cs, List.length_map, eq_true hn, eq_false he, decide_true, decide_false, Bool.false_eq_true, f5_j5_eq _ (PP_ok _ _ _), z_ld_own h1 (o := 0) rfl, pub_sl, z_call0 (h32' _ _), z_finC_bool hC]
    · simp -implicitDefEqProofs only [↓z_ret, ↓z_val, ↓z_pick, ↓z_cond, ↓z_boxRo_agg, ↓z_boxRo_int, ↓z_boxRo_bool, ↓z_boxRo_str, ↓z_boxRo_sl, ↓z_boxRo_fn, ↓z_boxRo_vptr, ↓z_boxRo_ref, ↓z_len_sl, ↓z_len_msl, ↓z_len_str, ↓z_load1, ↓z_fa, ↓z_fa_ref, ↓z_callF, ↓z_andK, ↓z_orK, ↓z_and1, ↓z_and2, ↓z_and3, ↓z_and4, ↓z_and5, ↓z_and6, ↓z_and7, ↓z_and8, ↓z_and9, ↓z_and10, ↓z_and11, ↓z_and12, ↓z_or1, ↓z_or2, ↓z_or3, ↓z_or4, ↓z_or5, ↓z_or6, ↓z_or7, ↓z_or8, ↓z_or9, ↓z_or10, ↓z_or11, ↓z_or12, ↓z_add, ↓z_sub, ↓z_mul, ↓z_eql, ↓z_neq, ↓z_lss, ↓z_leq, ↓z_gtr, ↓z_geq, ↓z_not, ↓z_neg, ↓z_fin_int, ↓z_fin_bool, ↓z_fin_str, ↓z_ent_int, ↓z_ent_bool, ↓z_ent_str, ↓z_stn, ↓z_ldnn, ↓z_ldn0, ↓z_ldn1, ↓z_ldn2, ↓z_ldn3, ↓z_ldn4, ↓z_ldn5, ↓z_ldn6, ↓z_ldn7, ↓z_ldn8, List.drop_zero, List.drop_succ_cons, List.cons_append, List.nil_append, decide_eq_true_eq, decide_eq_false_iff_not, ite_not, ↓reduceIte, pub_agg, pub_int, pub_bool, pub_str, pub_fn, pub_vptr, pub_nilp, Nat.zero_add, List.length_cons, List.length_nil, Nat.reduceAdd, List.all_cons, List.all_nil, isCell_int, isCell_bool, isCell_str, isCell_sl, Bool.and_self, ↓z_loadn, Nat.reduceLeDiff, Nat.le_refl, List.take_succ_cons, List.take_zero, Prog.cs, List.length_map, eq_false hn, decide_true, decide_false, Bool.false_eq_true, f5_j5_eq _ (PP_ok _ _ _), z_ld_own h1 (o := 0) rfl, pub_sl, z_call0 (h32' _ _), z_finC_bool hC]
theorem f5_ok (p : Prog) (inp : List Int) (gi : Gr) (m b : Int) (s : St) (hv : p.vals.length ≤ 9223372036854775807) (hvv : ∀ v, v ∈ p.vals → v.1.length ≤ 9223372036854775807) (hgi : ∀ d, gi.pub d = gi) (h6 : ∃ s', callω T1 G X 10 [] { own := [], up := [], ro := [] } = .ok (.bool true) s') :
    callω T1 G X 5 [p.enc, sl1 inp gi, .agg [I m, I b]] s = .ok (.bool true) s := by
  obtain ⟨s6, h6⟩ := h6
  rw [f5_call, f5_eq]
  have h15 := f15_ok G X m b s.enter
  generalize hM : modOf m = M at *
  simp -implicitDefEqProofs only [Prog.enc, Prog.cs, sl1, ↓z_ret, ↓z_val, ↓z_pick, ↓z_cond, ↓z_boxRo_agg, ↓z_boxRo_int, ↓z_boxRo_bool, ↓z_boxRo_str, ↓z_boxRo_sl, ↓z_boxRo_fn, ↓z_boxRo_vptr, ↓z_boxRo_ref, ↓z_len_sl, ↓z_len_msl, ↓z_len_str, ↓z_load1, ↓z_fa, ↓z_fa_ref, ↓z_callF, ↓z_andK, ↓z_orK, ↓z_and1, ↓z_and2, ↓z_and3, ↓z_and4, ↓z_and5, ↓z_and6, ↓z_and7, ↓z_and8, ↓z_and9, ↓z_and10, ↓z_and11, ↓z_and12, ↓z_or1, ↓z_or2, ↓z_or3, ↓z_or4, ↓z_or5, ↓z_or6, ↓z_or7, ↓z_or8, ↓z_or9, ↓z_or10, ↓z_or11, ↓z_or12, ↓z_add, ↓z_sub, ↓z_mul, ↓z_eql, ↓z_neq, ↓z_lss, ↓z_leq, ↓z_gtr, ↓z_geq, ↓z_not, ↓z_neg, ↓z_fin_int, ↓z_fin_bool, ↓z_fin_str, ↓z_ent_int, ↓z_ent_bool, ↓z_ent_str, ↓z_stn, ↓z_ldnn, ↓z_ldn0, ↓z_ldn1, ↓z_ldn2, ↓z_ldn3, ↓z_ldn4, ↓z_ldn5, ↓z_ldn6, ↓z_ldn7, ↓z_ldn8, List.drop_zero, List.drop_succ_cons, List.cons_append, List.nil_append, decide_eq_true_eq, decide_eq_false_iff_not, ite_not, ↓reduceIte, pub_agg, pub_int, pub_bool, pub_str, pub_fn, pub_vptr, pub_nilp, Nat.zero_add, List.length_cons, List.length_nil, Nat.reduceAdd, List.all_cons, List.all_nil, isCell_int, isCell_bool, isCell_str, isCell_sl, Bool.and_self, ↓z_loadn, Nat.reduceLeDiff, Nat.le_refl, List.take_succ_cons, List.take_zero, z_callP rfl h6 rfl, z_call0 h15, ↓z_st_rule G X _ _ _ _ [.int .i64 0, .int .i64 0, .sl 1 [] .nil] rfl, pub_ref, ↓z_build5, ↓z_st5 G X _ _ [.nilf, .nilf, .nilf, .nilf, .nilf] rfl, pub_sl, hgi]
  have hres : ∃ (e : Int) (L V : List Int), callω T1 G X 19 [p.enc, .agg (ring5 s.enter.depth), sl1 inp gi] (s5 s M b []) = .ok (.tup [.sl 1 (V.map I) (if e = 0 then .exact else .nil), I e]) (s5 s M b L) ∧ (∀ s, callω T1 G X 31 [p.enc, sl1 inp gi, .agg (rcs M b)] s = .ok (.tup [.sl 1 (V.map I) (if e = 0 then gfin V else .nil), I e]) s) ∧ (e = 0 → p.ins.length ≤ 8192) ∧ V.length ≤ 8192 ∧ L = if e = 0 then logs p.ins else [] := by
    have h31 := fun s => f31_ok G X p inp gi M b s hv hvv
    unfold refRun at h31
    by_cases hc : p.check = 0
    · by_cases hin : (inp.length : Int) = p.inputs
      · refine ⟨0, logs p.ins, runR (opsM M b) inp p.ins 0 [], f19_ok G X (ringOK_calls G X M b s) p inp _ (inOK_sl G X _ inp gi) hv hvv hin hc, fun s => ?_, fun _ => (check0 hc).1, ?_, rfl⟩
        · have := h31 s
          rw [if_pos hc, if_pos hin] at this
          exact this
        · have := runR_len (opsM M b) inp p.ins 0 []
          have := (check0 hc).1
          simp at *
          omega
      · refine ⟨1, [], [], f19_bad G X p inp gi _ _ rfl _ hv hvv 1 (.inr ⟨hc, hin, rfl⟩), fun s => ?_, (fun h => by omega), by simp, rfl⟩
        have := h31 s
        rw [if_pos hc, if_neg hin] at this
        exact this
    · refine ⟨p.check, [], [], ?_, fun s => ?_, fun h => absurd h hc, by simp, by rw [if_neg hc]⟩
      · rw [if_neg hc]
        exact f19_bad G X p inp gi _ _ rfl _ hv hvv _ (.inl ⟨hc, rfl⟩)
      · have := h31 s
        rw [if_neg hc] at this
        rw [if_neg hc]
        exact this
  obtain ⟨e, L, V, h19, h31, h8, hVl, hL⟩ := hres
  refine (z_call h19 rfl).trans ?_
  have h31' := h31 (s5 s M b L)
  simp -implicitDefEqProofs only [Prog.enc, Prog.cs, sl1, rcs] at h31'
  have ldr := ld5r G X s M b L
  simp -implicitDefEqProofs only [rcs] at ldr
  rw [show s.enter.own.length = 0 from rfl]
  simp -implicitDefEqProofs only [↓z_ext0, ↓z_ext1, ldr, pub_agg, z_call0 h31']
  exact f5_end G X p s M b e L V V _ _ h8 rfl hVl hL _ rfl
end Go.AbZ
end
