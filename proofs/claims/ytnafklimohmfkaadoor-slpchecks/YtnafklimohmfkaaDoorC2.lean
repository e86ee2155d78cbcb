/- The contracts of some functions of the program, as the abstract evaluator runs them: for every argument that their texts name. -/
import Derived.Test.YtnafklimohmfkaaDoorC1
namespace Go.AbD
open Go.Ab
variable (G : Nat → AV) (X : Nat → List AV → St → Res)
set_option linter.unusedSimpArgs false
set_option linter.unusedVariables false
theorem f13_l12_ok (p : Prog) (v : List Int) (s : St) (g : Gr) (R : Res) (c6 : Int) (hv : v.length ≤ 9223372036854775807) (hR : ∀ (S : St), Child s S → f13_j15 (PP T1 G X) (.vptr p.cs) (I c6) S = R) : ∀ (n i : Nat), i + n = v.length → ∀ (S : St), Child s S →
    f13_l12 (PP T1 G X) (.vptr p.cs) (I c6) (.sl 1 (v.map I) g) (.int .i64 (i : Int)) S = (if (v.drop i).all (inReg p.ins.length) = true then R else .ok (I 3) s) := by
  intro n
  induction n with
  | zero =>
    intro i hi S hS
    rw [f13_l12_eq _ (PP_ok _ _ _)]
    have h : ¬ ((i : Int) < (v.length : Int)) := by omega
    simp -implicitDefEqProofs only [↓z_ret, ↓z_val, ↓z_pick, ↓z_cond, ↓z_boxRo_agg, ↓z_boxRo_int, ↓z_boxRo_bool, ↓z_boxRo_str, ↓z_boxRo_sl, ↓z_boxRo_fn, ↓z_boxRo_vptr, ↓z_boxRo_ref, ↓z_len_sl, ↓z_len_msl, ↓z_len_str, ↓z_load1, ↓z_fa, ↓z_fa_ref, ↓z_callF, ↓z_andK, ↓z_orK, ↓z_and1, ↓z_and2, ↓z_and3, ↓z_and4, ↓z_and5, ↓z_and6, ↓z_and7, ↓z_and8, ↓z_and9, ↓z_and10, ↓z_and11, ↓z_and12, ↓z_or1, ↓z_or2, ↓z_or3, ↓z_or4, ↓z_or5, ↓z_or6, ↓z_or7, ↓z_or8, ↓z_or9, ↓z_or10, ↓z_or11, ↓z_or12, ↓z_add, ↓z_sub, ↓z_mul, ↓z_eql, ↓z_neq, ↓z_lss, ↓z_leq, ↓z_gtr, ↓z_geq, ↓z_not, ↓z_neg, ↓z_fin_int, ↓z_fin_bool, ↓z_fin_str, ↓z_ent_int, ↓z_ent_bool, ↓z_ent_str, ↓z_stn, ↓z_ldnn, ↓z_ldn0, ↓z_ldn1, ↓z_ldn2, ↓z_ldn3, ↓z_ldn4, ↓z_ldn5, ↓z_ldn6, ↓z_ldn7, ↓z_ldn8, List.drop_zero, List.drop_succ_cons, List.cons_append, List.nil_append, decide_eq_true_eq, decide_eq_false_iff_not, ite_not, ↓reduceIte, pub_agg, pub_int, pub_bool, pub_str, pub_fn, pub_vptr, pub_nilp, Nat.zero_add, List.length_cons, List.length_nil, Nat.reduceAdd, List.all_cons, List.all_nil, isCell_int, isCell_bool, isCell_str, isCell_sl, Bool.and_self, ↓z_loadn, Nat.reduceLeDiff, Nat.le_refl, List.take_succ_cons, List.take_zero, List.length_map, h, decide_false, Bool.false_eq_true]
    rw [List.drop_of_length_le (by omega)]
    simp
    exact hR S hS
  | succ n ih =>
    intro i hi S hS
    rw [f13_l12_eq _ (PP_ok _ _ _)]
    have h : (i : Int) < (v.length : Int) := by omega
    have ha : i < v.length := by omega
    have ea : (v.map I)[i]? = some (I v[i]) := by simp [ha]
    have hw : IntKind.wrap .i64 ((i : Int) + 1) = ((i + 1 : Nat) : Int) := wrap_succ i (by omega)
    have := ih (i + 1) (by omega) S hS
    simp -implicitDefEqProofs only [Prog.cs] at this
    simp -implicitDefEqProofs only [↓z_ret, ↓z_val, ↓z_pick, ↓z_cond, ↓z_boxRo_agg, ↓z_boxRo_int, ↓z_boxRo_bool, ↓z_boxRo_str, ↓z_boxRo_sl, ↓z_boxRo_fn, ↓z_boxRo_vptr, ↓z_boxRo_ref, ↓z_len_sl, ↓z_len_msl, ↓z_len_str, ↓z_load1, ↓z_fa, ↓z_fa_ref, ↓z_callF, ↓z_andK, ↓z_orK, ↓z_and1, ↓z_and2, ↓z_and3, ↓z_and4, ↓z_and5, ↓z_and6, ↓z_and7, ↓z_and8, ↓z_and9, ↓z_and10, ↓z_and11, ↓z_and12, ↓z_or1, ↓z_or2, ↓z_or3, ↓z_or4, ↓z_or5, ↓z_or6, ↓z_or7, ↓z_or8, ↓z_or9, ↓z_or10, ↓z_or11, ↓z_or12, ↓z_add, ↓z_sub, ↓z_mul, ↓z_eql, ↓z_neq, ↓z_lss, ↓z_leq, ↓z_gtr, ↓z_geq, ↓z_not, ↓z_neg, ↓z_fin_int, ↓z_fin_bool, ↓z_fin_str, ↓z_ent_int, ↓z_ent_bool, ↓z_ent_str, ↓z_stn, ↓z_ldnn, ↓z_ldn0, ↓z_ldn1, ↓z_ldn2, ↓z_ldn3, ↓z_ldn4, ↓z_ldn5, ↓z_ldn6, ↓z_ldn7, ↓z_ldn8, List.drop_zero, List.drop_succ_cons, List.cons_append, List.nil_append, decide_eq_true_eq, decide_eq_false_iff_not, ite_not, ↓reduceIte, pub_agg, pub_int, pub_bool, pub_str, pub_fn, pub_vptr, pub_nilp, Nat.zero_add, List.length_cons, List.length_nil, Nat.reduceAdd, List.all_cons, List.all_nil, isCell_int, isCell_bool, isCell_str, isCell_sl, Bool.and_self, ↓z_loadn, Nat.reduceLeDiff, Nat.le_refl, List.take_succ_cons, List.take_zero, h, decide_true, if_true, f13_j13_eq _ (PP_ok _ _ _), f13_j14_eq _ (PP_ok _ _ _), z_idx _ _ _ _ _ _ ea, AV.cells, Prog.cs, List.length_map, hw, z_finC_int hS]
    rw [this, List.drop_eq_getElem_cons ha]
    simp -implicitDefEqProofs only [List.all_cons, inReg]
    by_cases h1 : v[i] < 0
    · have : ¬ (0 ≤ v[i]) := by omega
      simp [h1, this]
    · by_cases h2 : (p.ins.length : Int) ≤ v[i]
      · have : ¬ (v[i] < (p.ins.length : Int)) := by omega
        simp [h1, h2, this]
      · have h1' : 0 ≤ v[i] := by omega
        have h2' : v[i] < (p.ins.length : Int) := by omega
        simp [h1, h2, h1', h2', inReg]

theorem f13_l9_ok (p : Prog) (s : St) (hv : p.vals.length ≤ 9223372036854775807) (hvv : ∀ v, v ∈ p.vals → v.1.length ≤ 9223372036854775807) : ∀ (n i : Nat), i + n = p.vals.length → ∀ (S : St), Child s S →
    f13_l9 (PP T1 G X) (.vptr p.cs) (.int .i64 (i : Int)) S = .ok (I (if ((p.vals.drop i).all fun v => okVal p.ins.length v.1) = true then 0 else 3)) s := by
  intro n
  induction n with
  | zero =>
    intro i hi S hS
    rw [f13_l9_eq _ (PP_ok _ _ _)]
    have h : ¬ ((i : Int) < (p.vals.length : Int)) := by omega
    simp -implicitDefEqProofs only [↓z_ret, ↓z_val, ↓z_pick, ↓z_cond, ↓z_boxRo_agg, ↓z_boxRo_int, ↓z_boxRo_bool, ↓z_boxRo_str, ↓z_boxRo_sl, ↓z_boxRo_fn, ↓z_boxRo_vptr, ↓z_boxRo_ref, ↓z_len_sl, ↓z_len_msl, ↓z_len_str, ↓z_load1, ↓z_fa, ↓z_fa_ref, ↓z_callF, ↓z_andK, ↓z_orK, ↓z_and1, ↓z_and2, ↓z_and3, ↓z_and4, ↓z_and5, ↓z_and6, ↓z_and7, ↓z_and8, ↓z_and9, ↓z_and10, ↓z_and11, ↓z_and12, ↓z_or1, ↓z_or2, ↓z_or3, ↓z_or4, ↓z_or5, ↓z_or6, ↓z_or7, ↓z_or8, ↓z_or9, ↓z_or10, ↓z_or11, ↓z_or12, ↓z_add, ↓z_sub, ↓z_mul, ↓z_eql, ↓z_neq, ↓z_lss, ↓z_leq, ↓z_gtr, ↓z_geq, ↓z_not, ↓z_neg, ↓z_fin_int, ↓z_fin_bool, ↓z_fin_str, ↓z_ent_int, ↓z_ent_bool, ↓z_ent_str, ↓z_stn, ↓z_ldnn, ↓z_ldn0, ↓z_ldn1, ↓z_ldn2, ↓z_ldn3, ↓z_ldn4, ↓z_ldn5, ↓z_ldn6, ↓z_ldn7, ↓z_ldn8, List.drop_zero, List.drop_succ_cons, List.cons_append, List.nil_append, decide_eq_true_eq, decide_eq_false_iff_not, ite_not, ↓reduceIte, pub_agg, pub_int, pub_bool, pub_str, pub_fn, pub_vptr, pub_nilp, Nat.zero_add, List.length_cons, List.length_nil, Nat.reduceAdd, List.all_cons, List.all_nil, isCell_int, isCell_bool, isCell_str, isCell_sl, Bool.and_self, ↓z_loadn, Nat.reduceLeDiff, Nat.le_refl, List.take_succ_cons, List.take_zero, Prog.cs, List.length_map, h, decide_false, Bool.false_eq_true, f13_j16_eq _ (PP_ok _ _ _), z_finC_int hS]
    rw [List.drop_of_length_le (by omega)]
    simp
  | succ n ih =>
    intro i hi S hS
    rw [f13_l9_eq _ (PP_ok _ _ _)]
    have h : (i : Int) < (p.vals.length : Int) := by omega
    have ha : i < p.vals.length := by omega
    have ea : (p.vals.map fun v => sl1 v.1 v.2)[i]? = some (sl1 p.vals[i].1 p.vals[i].2) := by simp [ha]
    have hw : IntKind.wrap .i64 ((i : Int) + 1) = ((i + 1 : Nat) : Int) := wrap_succ i (by omega)
    have hl := hvv p.vals[i] (List.getElem_mem ha)
    have key := fun S hS => f13_l12_ok G X p p.vals[i].1 s p.vals[i].2 (.ok (I (if ((p.vals.drop (i + 1)).all fun v => okVal p.ins.length v.1) = true then 0 else 3)) s) i hl (fun S hS => by
      rw [f13_j15_eq _ (PP_ok _ _ _)]
      simp -implicitDefEqProofs only [↓z_ret, ↓z_val, ↓z_pick, ↓z_cond, ↓z_boxRo_agg, ↓z_boxRo_int, ↓z_boxRo_bool, ↓z_boxRo_str, ↓z_boxRo_sl, ↓z_boxRo_fn, ↓z_boxRo_vptr, ↓z_boxRo_ref, ↓z_len_sl, ↓z_len_msl, ↓z_len_str, ↓z_load1, ↓z_fa, ↓z_fa_ref, ↓z_callF, ↓z_andK, ↓z_orK, ↓z_and1, ↓z_and2, ↓z_and3, ↓z_and4, ↓z_and5, ↓z_and6, ↓z_and7, ↓z_and8, ↓z_and9, ↓z_and10, ↓z_and11, ↓z_and12, ↓z_or1, ↓z_or2, ↓z_or3, ↓z_or4, ↓z_or5, ↓z_or6, ↓z_or7, ↓z_or8, ↓z_or9, ↓z_or10, ↓z_or11, ↓z_or12, ↓z_add, ↓z_sub, ↓z_mul, ↓z_eql, ↓z_neq, ↓z_lss, ↓z_leq, ↓z_gtr, ↓z_geq, ↓z_not, ↓z_neg, ↓z_fin_int, ↓z_fin_bool, ↓z_fin_str, ↓z_ent_int, ↓z_ent_bool, ↓z_ent_str, ↓z_stn, ↓z_ldnn, ↓z_ldn0, ↓z_ldn1, ↓z_ldn2, ↓z_ldn3, ↓z_ldn4, ↓z_ldn5, ↓z_ldn6, ↓z_ldn7, ↓z_ldn8, List.drop_zero, List.drop_succ_cons, List.cons_append, List.nil_append, decide_eq_true_eq, decide_eq_false_iff_not, ite_not, ↓reduceIte, pub_agg, pub_int, pub_bool, pub_str, pub_fn, pub_vptr, pub_nilp, Nat.zero_add, List.length_cons, List.length_nil, Nat.reduceAdd, List.all_cons, List.all_nil, isCell_int, isCell_bool, isCell_str, isCell_sl, Bool.and_self, ↓z_loadn, Nat.reduceLeDiff, Nat.le_refl, List.take_succ_cons, List.take_zero, hw]
      exact ih (i + 1) (by omega) S hS) p.vals[i].1.length 0 (by omega) S hS
    simp -implicitDefEqProofs only [Int.natCast_zero, List.drop_zero, Prog.cs] at key
    simp -implicitDefEqProofs only [↓z_ret, ↓z_val, ↓z_pick, ↓z_cond, ↓z_boxRo_agg, ↓z_boxRo_int, ↓z_boxRo_bool, ↓z_boxRo_str, ↓z_boxRo_sl, ↓z_boxRo_fn, ↓z_boxRo_vptr, ↓z_boxRo_ref, ↓z_len_sl, ↓z_len_msl, ↓z_len_str, ↓z_load1, ↓z_fa, ↓z_fa_ref, ↓z_callF, ↓z_andK, ↓z_orK, ↓z_and1, ↓z_and2, ↓z_and3, ↓z_and4, ↓z_and5, ↓z_and6, ↓z_and7, ↓z_and8, ↓z_and9, ↓z_and10, ↓z_and11, ↓z_and12, ↓z_or1, ↓z_or2, ↓z_or3, ↓z_or4, ↓z_or5, ↓z_or6, ↓z_or7, ↓z_or8, ↓z_or9, ↓z_or10, ↓z_or11, ↓z_or12, ↓z_add, ↓z_sub, ↓z_mul, ↓z_eql, ↓z_neq, ↓z_lss, ↓z_leq, ↓z_gtr, ↓z_geq, ↓z_not, ↓z_neg, ↓z_fin_int, ↓z_fin_bool, ↓z_fin_str, ↓z_ent_int, ↓z_ent_bool, ↓z_ent_str, ↓z_stn, ↓z_ldnn, ↓z_ldn0, ↓z_ldn1, ↓z_ldn2, ↓z_ldn3, ↓z_ldn4, ↓z_ldn5, ↓z_ldn6, ↓z_ldn7, ↓z_ldn8, List.drop_zero, List.drop_succ_cons, List.cons_append, List.nil_append, decide_eq_true_eq, decide_eq_false_iff_not, ite_not, ↓reduceIte, pub_agg, pub_int, pub_bool, pub_str, pub_fn, pub_vptr, pub_nilp, Nat.zero_add, List.length_cons, List.length_nil, Nat.reduceAdd, List.all_cons, List.all_nil, isCell_int, isCell_bool, isCell_str, isCell_sl, Bool.and_self, ↓z_loadn, Nat.reduceLeDiff, Nat.le_refl, List.take_succ_cons, List.take_zero, Prog.cs, List.length_map, h, decide_true, if_true, f13_j10_eq _ (PP_ok _ _ _), f13_j11_eq _ (PP_ok _ _ _), z_idx _ _ _ _ _ _ ea, AV.cells, z_finC_int hS]
    simp -implicitDefEqProofs only [key S hS]
    rw [List.drop_eq_getElem_cons ha]
    rw [List.all_cons, show okVal p.ins.length p.vals[i].1 = (decide (p.vals[i].1.length = 3 ∨ p.vals[i].1.length = 7) && p.vals[i].1.all (inReg p.ins.length)) from rfl]
    generalize ((p.vals.drop (i + 1)).all fun v => okVal p.ins.length v.1) = Q
    by_cases h3 : p.vals[i].1.length = 3
    · by_cases hall : p.vals[i].1.all (inReg p.ins.length) = true <;> simp [h3, hall]
    · by_cases h7 : p.vals[i].1.length = 7
      · by_cases hall : p.vals[i].1.all (inReg p.ins.length) = true <;> simp [h7, hall]
      · have e3 : ¬ (p.vals[i].1.length : Int) = 3 := by omega
        have e7 : ¬ (p.vals[i].1.length : Int) = 7 := by omega
        simp [h3, h7, e3, e7]

theorem f13_l2_ok (p : Prog) (s : St) (h8 : p.ins.length ≤ 8192) (h5 : p.roots.length ≤ 5) (R : Res) (hR : ∀ S, Child s S → f13_j8 (PP T1 G X) (.vptr p.cs) S = R) : ∀ (n i nx : Nat), i + n = p.ins.length → nx ≤ p.roots.length → ∀ (S : St), Child s S →
    f13_l2 (PP T1 G X) (.vptr p.cs) (.int .i64 (nx : Int)) (.int .i64 (i : Int)) S = if scan p.roots p.inputs (p.ins.drop i) i nx = some p.roots.length then R else .ok (I 3) s := by
  intro n
  induction n with
  | zero =>
    intro i nx hi hnx S hS
    rw [f13_l2_eq _ (PP_ok _ _ _)]
    have h : ¬ ((i : Int) < (p.ins.length : Int)) := by omega
    have := hR S hS
    simp -implicitDefEqProofs only [Prog.cs] at this
    simp -implicitDefEqProofs only [↓z_ret, ↓z_val, ↓z_pick, ↓z_cond, ↓z_boxRo_agg, ↓z_boxRo_int, ↓z_boxRo_bool, ↓z_boxRo_str, ↓z_boxRo_sl, ↓z_boxRo_fn, ↓z_boxRo_vptr, ↓z_boxRo_ref, ↓z_len_sl, ↓z_len_msl, ↓z_len_str, ↓z_load1, ↓z_fa, ↓z_fa_ref, ↓z_callF, ↓z_andK, ↓z_orK, ↓z_and1, ↓z_and2, ↓z_and3, ↓z_and4, ↓z_and5, ↓z_and6, ↓z_and7, ↓z_and8, ↓z_and9, ↓z_and10, ↓z_and11, ↓z_and12, ↓z_or1, ↓z_or2, ↓z_or3, ↓z_or4, ↓z_or5, ↓z_or6, ↓z_or7, ↓z_or8, ↓z_or9, ↓z_or10, ↓z_or11, ↓z_or12, ↓z_add, ↓z_sub, ↓z_mul, ↓z_eql, ↓z_neq, ↓z_lss, ↓z_leq, ↓z_gtr, ↓z_geq, ↓z_not, ↓z_neg, ↓z_fin_int, ↓z_fin_bool, ↓z_fin_str, ↓z_ent_int, ↓z_ent_bool, ↓z_ent_str, ↓z_stn, ↓z_ldnn, ↓z_ldn0, ↓z_ldn1, ↓z_ldn2, ↓z_ldn3, ↓z_ldn4, ↓z_ldn5, ↓z_ldn6, ↓z_ldn7, ↓z_ldn8, List.drop_zero, List.drop_succ_cons, List.cons_append, List.nil_append, decide_eq_true_eq, decide_eq_false_iff_not, ite_not, ↓reduceIte, pub_agg, pub_int, pub_bool, pub_str, pub_fn, pub_vptr, pub_nilp, Nat.zero_add, List.length_cons, List.length_nil, Nat.reduceAdd, List.all_cons, List.all_nil, isCell_int, isCell_bool, isCell_str, isCell_sl, Bool.and_self, ↓z_loadn, Nat.reduceLeDiff, Nat.le_refl, List.take_succ_cons, List.take_zero, Prog.cs, List.length_map, h, decide_false, Bool.false_eq_true, f13_j7_eq _ (PP_ok _ _ _), z_finC_int hS]
    rw [this, List.drop_of_length_le (by omega)]
    by_cases e : nx = p.roots.length
    · simp [scan, e]
    · have e' : ¬ (nx : Int) = (p.roots.length : Int) := by omega
      simp [scan, e, e']
  | succ n ih =>
    intro i nx hi hnx S hS
    rw [f13_l2_eq _ (PP_ok _ _ _)]
    have h : (i : Int) < (p.ins.length : Int) := by omega
    have ha : i < p.ins.length := by omega
    have ea : (p.ins.map Ins.enc)[i]? = some p.ins[i].enc := by simp [ha]
    have hw : IntKind.wrap .i64 ((i : Int) + 1) = ((i + 1 : Nat) : Int) := wrap_succ i (by omega)
    have hw2 : IntKind.wrap .i64 ((nx : Int) + 1) = ((nx + 1 : Nat) : Int) := wrap_succ nx (by omega)
    have hc : ∀ S, callω T1 G X 28 [.agg [.int .i64 p.ins[i].op, .int .i64 p.ins[i].a, .int .i64 p.ins[i].b], .int .i64 (i : Int), .int .i64 p.inputs] S = .ok (.bool (okIns p.ins[i] i p.inputs)) S := fun S => f28_ok G X p.ins[i] i p.inputs S
    have ih' := fun nx hnx => ih (i + 1) nx (by omega) hnx S hS
    simp -implicitDefEqProofs only [Prog.cs] at ih'
    rw [List.drop_eq_getElem_cons ha]
    generalize hx : p.ins[i] = x at *
    simp -implicitDefEqProofs only [↓z_ret, ↓z_val, ↓z_pick, ↓z_cond, ↓z_boxRo_agg, ↓z_boxRo_int, ↓z_boxRo_bool, ↓z_boxRo_str, ↓z_boxRo_sl, ↓z_boxRo_fn, ↓z_boxRo_vptr, ↓z_boxRo_ref, ↓z_len_sl, ↓z_len_msl, ↓z_len_str, ↓z_load1, ↓z_fa, ↓z_fa_ref, ↓z_callF, ↓z_andK, ↓z_orK, ↓z_and1, ↓z_and2, ↓z_and3, ↓z_and4, ↓z_and5, ↓z_and6, ↓z_and7, ↓z_and8, ↓z_and9, ↓z_and10, ↓z_and11, ↓z_and12, ↓z_or1, ↓z_or2, ↓z_or3, ↓z_or4, ↓z_or5, ↓z_or6, ↓z_or7, ↓z_or8, ↓z_or9, ↓z_or10, ↓z_or11, ↓z_or12, ↓z_add, ↓z_sub, ↓z_mul, ↓z_eql, ↓z_neq, ↓z_lss, ↓z_leq, ↓z_gtr, ↓z_geq, ↓z_not, ↓z_neg, ↓z_fin_int, ↓z_fin_bool, ↓z_fin_str, ↓z_ent_int, ↓z_ent_bool, ↓z_ent_str, ↓z_stn, ↓z_ldnn, ↓z_ldn0, ↓z_ldn1, ↓z_ldn2, ↓z_ldn3, ↓z_ldn4, ↓z_ldn5, ↓z_ldn6, ↓z_ldn7, ↓z_ldn8, List.drop_zero, List.drop_succ_cons, List.cons_append, List.nil_append, decide_eq_true_eq, decide_eq_false_iff_not, ite_not, ↓reduceIte, pub_agg, pub_int, pub_bool, pub_str, pub_fn, pub_vptr, pub_nilp, Nat.zero_add, List.length_cons, List.length_nil, Nat.reduceAdd, List.all_cons, List.all_nil, isCell_int, isCell_bool, isCell_str, isCell_sl, Bool.and_self, ↓z_loadn, Nat.reduceLeDiff, Nat.le_refl, List.take_succ_cons, List.take_zero, Prog.cs, List.length_map, h, decide_true, if_true, f13_j3_eq _ (PP_ok _ _ _), f13_j4_eq _ (PP_ok _ _ _), f13_j5_eq _ (PP_ok _ _ _), f13_j6_eq _ (PP_ok _ _ _), z_idx _ _ _ _ _ _ ea, Ins.enc, Ins.cs, AV.cells, z_call0 (hc _), z_finC_int hS, hw, hw2]
    simp -implicitDefEqProofs only [scan]
    by_cases hok : okIns x i p.inputs = true
    · simp -implicitDefEqProofs only [hok, Bool.not_true, Bool.false_eq_true, ↓reduceIte]
      by_cases h6 : x.op = 6
      · simp -implicitDefEqProofs only [h6, ↓reduceIte, List.length_map]
        by_cases hr : nx = p.roots.length
        · have e1 : (p.roots.length : Int) ≤ (nx : Int) := by omega
          have e2 : p.roots[nx]? = none := List.getElem?_eq_none (by omega)
          simp [e1, e2]
        · have e1 : ¬ (p.roots.length : Int) ≤ (nx : Int) := by omega
          have hlt : nx < p.roots.length := by omega
          have er : (p.roots.map I)[nx]? = some (I p.roots[nx]) := by simp [hlt]
          have er2 : p.roots[nx]? = some p.roots[nx] := List.getElem?_eq_getElem hlt
          simp -implicitDefEqProofs only [e1, ↓z_ret, ↓z_val, ↓z_pick, ↓z_cond, ↓z_boxRo_agg, ↓z_boxRo_int, ↓z_boxRo_bool, ↓z_boxRo_str, ↓z_boxRo_sl, ↓z_boxRo_fn, ↓z_boxRo_vptr, ↓z_boxRo_ref, ↓z_len_sl, ↓z_len_msl, ↓z_len_str, ↓z_load1, ↓z_fa, ↓z_fa_ref, ↓z_callF, ↓z_andK, ↓z_orK, ↓z_and1, ↓z_and2, ↓z_and3, ↓z_and4, ↓z_and5, ↓z_and6, ↓z_and7, ↓z_and8, ↓z_and9, ↓z_and10, ↓z_and11, ↓z_and12, ↓z_or1, ↓z_or2, ↓z_or3, ↓z_or4, ↓z_or5, ↓z_or6, ↓z_or7, ↓z_or8, ↓z_or9, ↓z_or10, ↓z_or11, ↓z_or12, ↓z_add, ↓z_sub, ↓z_mul, ↓z_eql, ↓z_neq, ↓z_lss, ↓z_leq, ↓z_gtr, ↓z_geq, ↓z_not, ↓z_neg, ↓z_fin_int, ↓z_fin_bool, ↓z_fin_str, ↓z_ent_int, ↓z_ent_bool, ↓z_ent_str, ↓z_stn, ↓z_ldnn, ↓z_ldn0, ↓z_ldn1, ↓z_ldn2, ↓z_ldn3, ↓z_ldn4, ↓z_ldn5, ↓z_ldn6, ↓z_ldn7, ↓z_ldn8, List.drop_zero, List.drop_succ_cons, List.cons_append, List.nil_append, decide_eq_true_eq, decide_eq_false_iff_not, ite_not, ↓reduceIte, pub_agg, pub_int, pub_bool, pub_str, pub_fn, pub_vptr, pub_nilp, Nat.zero_add, List.length_cons, List.length_nil, Nat.reduceAdd, List.all_cons, List.all_nil, isCell_int, isCell_bool, isCell_str, isCell_sl, Bool.and_self, ↓z_loadn, Nat.reduceLeDiff, Nat.le_refl, List.take_succ_cons, List.take_zero, z_idx _ _ _ _ _ _ er, AV.cells, z_finC_int hS, er2]
          by_cases hri : p.roots[nx] = (i : Int)
          · simp -implicitDefEqProofs only [hri, not_true_eq_false, ↓reduceIte, ih' (nx + 1) (by omega)]
          · simp [hri]
      · simp -implicitDefEqProofs only [h6, ↓reduceIte, ih' nx hnx]
    · simp [hok]
theorem f13_ok (p : Prog) (s : St) (hv : p.vals.length ≤ 9223372036854775807) (hvv : ∀ v, v ∈ p.vals → v.1.length ≤ 9223372036854775807) : callω T1 G X 13 [p.enc] s = .ok (I p.check) s := by
  rw [f13_call, f13_eq]
  simp -implicitDefEqProofs only [Prog.enc, Prog.cs, ↓z_ret, ↓z_val, ↓z_pick, ↓z_cond, ↓z_boxRo_agg, ↓z_boxRo_int, ↓z_boxRo_bool, ↓z_boxRo_str, ↓z_boxRo_sl, ↓z_boxRo_fn, ↓z_boxRo_vptr, ↓z_boxRo_ref, ↓z_len_sl, ↓z_len_msl, ↓z_len_str, ↓z_load1, ↓z_fa, ↓z_fa_ref, ↓z_callF, ↓z_andK, ↓z_orK, ↓z_and1, ↓z_and2, ↓z_and3, ↓z_and4, ↓z_and5, ↓z_and6, ↓z_and7, ↓z_and8, ↓z_and9, ↓z_and10, ↓z_and11, ↓z_and12, ↓z_or1, ↓z_or2, ↓z_or3, ↓z_or4, ↓z_or5, ↓z_or6, ↓z_or7, ↓z_or8, ↓z_or9, ↓z_or10, ↓z_or11, ↓z_or12, ↓z_add, ↓z_sub, ↓z_mul, ↓z_eql, ↓z_neq, ↓z_lss, ↓z_leq, ↓z_gtr, ↓z_geq, ↓z_not, ↓z_neg, ↓z_fin_int, ↓z_fin_bool, ↓z_fin_str, ↓z_ent_int, ↓z_ent_bool, ↓z_ent_str, ↓z_stn, ↓z_ldnn, ↓z_ldn0, ↓z_ldn1, ↓z_ldn2, ↓z_ldn3, ↓z_ldn4, ↓z_ldn5, ↓z_ldn6, ↓z_ldn7, ↓z_ldn8, List.drop_zero, List.drop_succ_cons, List.cons_append, List.nil_append, decide_eq_true_eq, decide_eq_false_iff_not, ite_not, ↓reduceIte, pub_agg, pub_int, pub_bool, pub_str, pub_fn, pub_vptr, pub_nilp, Nat.zero_add, List.length_cons, List.length_nil, Nat.reduceAdd, List.all_cons, List.all_nil, isCell_int, isCell_bool, isCell_str, isCell_sl, Bool.and_self, ↓z_loadn, Nat.reduceLeDiff, Nat.le_refl, List.take_succ_cons, List.take_zero, List.length_map, f13_j1_eq _ (PP_ok _ _ _)]
  have h10 := fun S hS => f13_l9_ok G X p s hv hvv p.vals.length 0 (by omega) S hS
  simp -implicitDefEqProofs only [Int.natCast_zero, List.drop_zero, Prog.cs] at h10
  by_cases c1 : p.inputs < 0
  · simp [c1, Prog.check]
  by_cases c2 : 20 < p.inputs
  · simp [c1, c2, Prog.check]
  by_cases c3 : 8192 < p.ins.length
  · have c3' : (8192 : Int) < (p.ins.length : Int) := by omega
    simp [c1, c2, c3, c3', Prog.check]
  by_cases c4 : 5 < p.roots.length
  · have c4' : (5 : Int) < (p.roots.length : Int) := by omega
    simp [c1, c2, c3, c4, c4', Prog.check]
  have c3' : ¬ (8192 : Int) < (p.ins.length : Int) := by omega
  have c4' : ¬ (5 : Int) < (p.roots.length : Int) := by omega
  have h2 := f13_l2_ok G X p s (by omega) (by omega) (.ok (I (if (p.vals.all fun v => okVal p.ins.length v.1) = true then 0 else 3)) s) (fun S hS => by
    rw [f13_j8_eq _ (PP_ok _ _ _)]
    simp -implicitDefEqProofs only [Prog.cs, h10 S hS]) p.ins.length 0 0 (by omega) (by omega) s.enter (.enter s)
  simp -implicitDefEqProofs only [Int.natCast_zero, List.drop_zero, Prog.cs] at h2
  simp -implicitDefEqProofs only [c1, c2, c3', c4', if_false, h2, Prog.check, c3, c4, or_self]
  split
  · rename_i e
    simp -implicitDefEqProofs only [e, true_and]
  · rename_i e
    simp -implicitDefEqProofs only [e, false_and, if_false]
end Go.AbD
