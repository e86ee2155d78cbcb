/- The contracts of some functions of the program, as the abstract evaluator runs them: for every argument that their texts name. -/
import Derived.Test.YtnafklimohmfkaaDoorTabYH
import Derived.Test.YtnafklimohmfkaaDoorH
section
namespace Go.AbY
open Go.Ab
variable (G : Nat → AV) (X : Nat → List AV → St → Res)
set_option linter.unusedSimpArgs false
set_option linter.unusedVariables false
abbrev I (n : Int) : AV := .int .i64 n
/-- An instruction. -/
structure Ins where
  op : Int
  a : Int
  b : Int
def Ins.cs (x : Ins) : List AV := [.int .i64 x.op, .int .i64 x.a, .int .i64 x.b]
def Ins.enc (x : Ins) : AV := .agg x.cs
/-- A program. -/
structure Prog where
  inputs : Int
  ins : List Ins
  gi : Gr
  vals : List (List Int × Gr)
  gv : Gr
  roots : List Int
  gr : Gr
abbrev sl1 (l : List Int) (g : Gr) : AV := .sl 1 (l.map I) g
def Prog.cs (p : Prog) : List AV := [.int .i64 p.inputs, .sl 3 (p.ins.map Ins.enc) p.gi, .sl 1 (p.vals.map fun v => sl1 v.1 v.2) p.gv, sl1 p.roots p.gr]
def Prog.enc (p : Prog) : AV := .agg p.cs

theorem f34_ok (r at' : Int) (s : St) : callω T1 G X 34 [.int .i64 r, .vptr [.int .i64 at']] s = .ok (.bool (decide (0 ≤ r ∧ r < at'))) s := by
  rw [f34_call, f34_eq]
  simp -implicitDefEqProofs only [↓z_ret, ↓z_val, ↓z_pick, ↓z_cond, ↓z_boxRo_agg, ↓z_boxRo_int, ↓z_boxRo_bool, ↓z_boxRo_str, ↓z_boxRo_sl, ↓z_boxRo_fn, ↓z_boxRo_vptr, ↓z_boxRo_ref, ↓z_len_sl, ↓z_len_msl, ↓z_len_str, ↓z_load1, ↓z_fa, ↓z_fa_ref, ↓z_callF, ↓z_andK, ↓z_orK, ↓z_and1, ↓z_and2, ↓z_and3, ↓z_and4, ↓z_and5, ↓z_and6, ↓z_and7, ↓z_and8, ↓z_and9, ↓z_and10, ↓z_and11, ↓z_and12, ↓z_or1, ↓z_or2, ↓z_or3, ↓z_or4, ↓z_or5, ↓z_or6, ↓z_or7, ↓z_or8, ↓z_or9, ↓z_or10, ↓z_or11, ↓z_or12, ↓z_add, ↓z_sub, ↓z_mul, ↓z_eql, ↓z_neq, ↓z_lss, ↓z_leq, ↓z_gtr, ↓z_geq, ↓z_not, ↓z_neg, ↓z_fin_int, ↓z_fin_bool, ↓z_fin_str, ↓z_ent_int, ↓z_ent_bool, ↓z_ent_str, ↓z_stn, ↓z_ldnn, ↓z_ldn0, ↓z_ldn1, ↓z_ldn2, ↓z_ldn3, ↓z_ldn4, ↓z_ldn5, ↓z_ldn6, ↓z_ldn7, ↓z_ldn8, List.drop_zero, List.drop_succ_cons, List.cons_append, List.nil_append, decide_eq_true_eq, decide_eq_false_iff_not, ite_not, ↓reduceIte, pub_agg, pub_int, pub_bool, pub_str, pub_fn, pub_vptr, pub_nilp, Nat.zero_add, List.length_cons, List.length_nil, Nat.reduceAdd, List.all_cons, List.all_nil, isCell_int, isCell_bool, isCell_str, isCell_sl, Bool.and_self, ↓z_loadn, Nat.reduceLeDiff, Nat.le_refl, List.take_succ_cons, List.take_zero, ite_okb, ite_and']

/-- May an instruction stand at a place? -/
def okIns (x : Ins) (at' inputs : Int) : Bool :=
  if x.op = 1 then decide (0 ≤ x.a ∧ x.a < inputs ∧ x.b = 0)
  else if x.op = 2 then decide (-1000 ≤ x.a ∧ x.a ≤ 1000 ∧ x.b = 0)
  else if x.op = 3 ∨ x.op = 4 ∨ x.op = 5 then decide ((0 ≤ x.a ∧ x.a < at') ∧ (0 ≤ x.b ∧ x.b < at'))
  else if x.op = 6 then decide ((0 ≤ x.a ∧ x.a < at') ∧ x.b = 0)
  else false
theorem f18_ok (x : Ins) (at' inputs : Int) (s : St) : callω T1 G X 18 [x.enc, .int .i64 at', .int .i64 inputs] s = .ok (.bool (okIns x at' inputs)) s := by
  rw [f18_call, f18_eq]
  simp -implicitDefEqProofs only [Ins.enc, Ins.cs, ↓z_ret, ↓z_val, ↓z_pick, ↓z_cond, ↓z_boxRo_agg, ↓z_boxRo_int, ↓z_boxRo_bool, ↓z_boxRo_str, ↓z_boxRo_sl, ↓z_boxRo_fn, ↓z_boxRo_vptr, ↓z_boxRo_ref, ↓z_len_sl, ↓z_len_msl, ↓z_len_str, ↓z_load1, ↓z_fa, ↓z_fa_ref, ↓z_callF, ↓z_andK, ↓z_orK, ↓z_and1, ↓z_and2, ↓z_and3, ↓z_and4, ↓z_and5, ↓z_and6, ↓z_and7, ↓z_and8, ↓z_and9, ↓z_and10, ↓z_and11, ↓z_and12, ↓z_or1, ↓z_or2, ↓z_or3, ↓z_or4, ↓z_or5, ↓z_or6, ↓z_or7, ↓z_or8, ↓z_or9, ↓z_or10, ↓z_or11, ↓z_or12, ↓z_add, ↓z_sub, ↓z_mul, ↓z_eql, ↓z_neq, ↓z_lss, ↓z_leq, ↓z_gtr, ↓z_geq, ↓z_not, ↓z_neg, ↓z_fin_int, ↓z_fin_bool, ↓z_fin_str, ↓z_ent_int, ↓z_ent_bool, ↓z_ent_str, ↓z_stn, ↓z_ldnn, ↓z_ldn0, ↓z_ldn1, ↓z_ldn2, ↓z_ldn3, ↓z_ldn4, ↓z_ldn5, ↓z_ldn6, ↓z_ldn7, ↓z_ldn8, List.drop_zero, List.drop_succ_cons, List.cons_append, List.nil_append, decide_eq_true_eq, decide_eq_false_iff_not, ite_not, ↓reduceIte, pub_agg, pub_int, pub_bool, pub_str, pub_fn, pub_vptr, pub_nilp, Nat.zero_add, List.length_cons, List.length_nil, Nat.reduceAdd, List.all_cons, List.all_nil, isCell_int, isCell_bool, isCell_str, isCell_sl, Bool.and_self, ↓z_loadn, Nat.reduceLeDiff, Nat.le_refl, List.take_succ_cons, List.take_zero, f18_j1_eq _ (PP_ok _ _ _), f18_j2_eq _ (PP_ok _ _ _), z_call0 (f34_ok G X _ _ _), ite_okb, ite_and']
  congr 2
  unfold okIns
  grind
/-- The instructions from one on, with the next root: the number of roots behind them. -/
def scan (roots : List Int) (inputs : Int) : List Ins → Nat → Nat → Option Nat
  | [], _, nx => some nx
  | x :: xs, i, nx =>
    if okIns x i inputs = true then
      if x.op = 6 then
        if roots[nx]? = some (i : Int) then scan roots inputs xs (i + 1) (nx + 1) else none
      else scan roots inputs xs (i + 1) nx
    else none
def inReg (n : Nat) (r : Int) : Bool := decide (0 ≤ r ∧ r < (n : Int))
def okVal (n : Nat) (v : List Int) : Bool := decide (v.length = 3 ∨ v.length = 7) && v.all (inReg n)
def Prog.check (p : Prog) : Int :=
  if p.inputs < 0 ∨ 20 < p.inputs ∨ 8192 < p.ins.length ∨ 5 < p.roots.length then 3
  else if scan p.roots p.inputs p.ins 0 0 = some p.roots.length ∧ (p.vals.all fun v => okVal p.ins.length v.1) = true then 0 else 3

/-- The registers of a value. -/
theorem f7_l13_ok (p : Prog) (v : List Int) (s : St) (g : Gr) (R : Res) (c70 : AV) (c71 c72 : Int) (hv : v.length ≤ 9223372036854775807) (hR : ∀ (S : St), Child s S → f7_j16 (PP T1 G X) (.vptr p.cs) c70 (I c71) (I c72) S = R) : ∀ (n i : Nat), i + n = v.length → ∀ (S : St), Child s S →
    f7_l13 (PP T1 G X) (.vptr p.cs) c70 (I c71) (I c72) (.sl 1 (v.map I) g) (I v.length) (.int .i64 (i : Int)) S = (if (v.drop i).all (inReg p.ins.length) = true then R else .ok (I 3) s) := by
  intro n
  induction n with
  | zero =>
    intro i hi S hS
    rw [f7_l13_eq _ (PP_ok _ _ _)]
    have h : ¬ ((i : Int) < (v.length : Int)) := by omega
    simp -implicitDefEqProofs only [↓z_ret, ↓z_val, ↓z_pick, ↓z_cond, ↓z_boxRo_agg, ↓z_boxRo_int, ↓z_boxRo_bool, ↓z_boxRo_str, ↓z_boxRo_sl, ↓z_boxRo_fn, ↓z_boxRo_vptr, ↓z_boxRo_ref, ↓z_len_sl, ↓z_len_msl, ↓z_len_str, ↓z_load1, ↓z_fa, ↓z_fa_ref, ↓z_callF, ↓z_andK, ↓z_orK, ↓z_and1, ↓z_and2, ↓z_and3, ↓z_and4, ↓z_and5, ↓z_and6, ↓z_and7, ↓z_and8, ↓z_and9, ↓z_and10, ↓z_and11, ↓z_and12, ↓z_or1, ↓z_or2, ↓z_or3, ↓z_or4, ↓z_or5, ↓z_or6, ↓z_or7, ↓z_or8, ↓z_or9, ↓z_or10, ↓z_or11, ↓z_or12, ↓z_add, ↓z_sub, ↓z_mul, ↓z_eql, ↓z_neq, ↓z_lss, ↓z_leq, ↓z_gtr, ↓z_geq, ↓z_not, ↓z_neg, ↓z_fin_int, ↓z_fin_bool, ↓z_fin_str, ↓z_ent_int, ↓z_ent_bool, ↓z_ent_str, ↓z_stn, ↓z_ldnn, ↓z_ldn0, ↓z_ldn1, ↓z_ldn2, ↓z_ldn3, ↓z_ldn4, ↓z_ldn5, ↓z_ldn6, ↓z_ldn7, ↓z_ldn8, List.drop_zero, List.drop_succ_cons, List.cons_append, List.nil_append, decide_eq_true_eq, decide_eq_false_iff_not, ite_not, ↓reduceIte, pub_agg, pub_int, pub_bool, pub_str, pub_fn, pub_vptr, pub_nilp, Nat.zero_add, List.length_cons, List.length_nil, Nat.reduceAdd, List.all_cons, List.all_nil, isCell_int, isCell_bool, isCell_str, isCell_sl, Bool.and_self, ↓z_loadn, Nat.reduceLeDiff, Nat.le_refl, List.take_succ_cons, List.take_zero, h, decide_false, Bool.false_eq_true]
    rw [List.drop_of_length_le (by omega)]
    simp
    exact hR S hS
  | succ n ih =>
    intro i hi S hS
    rw [f7_l13_eq _ (PP_ok _ _ _)]
    have h : (i : Int) < (v.length : Int) := by omega
    have ha : i < v.length := by omega
    have ea : (v.map I)[i]? = some (I v[i]) := by simp [ha]
    have hw : IntKind.wrap .i64 ((i : Int) + 1) = ((i + 1 : Nat) : Int) := wrap_succ i (by omega)
    simp -implicitDefEqProofs only [↓z_ret, ↓z_val, ↓z_pick, ↓z_cond, ↓z_boxRo_agg, ↓z_boxRo_int, ↓z_boxRo_bool, ↓z_boxRo_str, ↓z_boxRo_sl, ↓z_boxRo_fn, ↓z_boxRo_vptr, ↓z_boxRo_ref, ↓z_len_sl, ↓z_len_msl, ↓z_len_str, ↓z_load1, ↓z_fa, ↓z_fa_ref, ↓z_callF, ↓z_andK, ↓z_orK, ↓z_and1, ↓z_and2, ↓z_and3, ↓z_and4, ↓z_and5, ↓z_and6, ↓z_and7, ↓z_and8, ↓z_and9, ↓z_and10, ↓z_and11, ↓z_and12, ↓z_or1, ↓z_or2, ↓z_or3, ↓z_or4, ↓z_or5, ↓z_or6, ↓z_or7, ↓z_or8, ↓z_or9, ↓z_or10, ↓z_or11, ↓z_or12, ↓z_add, ↓z_sub, ↓z_mul, ↓z_eql, ↓z_neq, ↓z_lss, ↓z_leq, ↓z_gtr, ↓z_geq, ↓z_not, ↓z_neg, ↓z_fin_int, ↓z_fin_bool, ↓z_fin_str, ↓z_ent_int, ↓z_ent_bool, ↓z_ent_str, ↓z_stn, ↓z_ldnn, ↓z_ldn0, ↓z_ldn1, ↓z_ldn2, ↓z_ldn3, ↓z_ldn4, ↓z_ldn5, ↓z_ldn6, ↓z_ldn7, ↓z_ldn8, List.drop_zero, List.drop_succ_cons, List.cons_append, List.nil_append, decide_eq_true_eq, decide_eq_false_iff_not, ite_not, ↓reduceIte, pub_agg, pub_int, pub_bool, pub_str, pub_fn, pub_vptr, pub_nilp, Nat.zero_add, List.length_cons, List.length_nil, Nat.reduceAdd, List.all_cons, List.all_nil, isCell_int, isCell_bool, isCell_str, isCell_sl, Bool.and_self, ↓z_loadn, Nat.reduceLeDiff, Nat.le_refl, List.take_succ_cons, List.take_zero, h, decide_true, if_true, f7_j14_eq _ (PP_ok _ _ _), f7_j15_eq _ (PP_ok _ _ _), z_idx _ _ _ _ _ _ ea, AV.cells, Prog.cs, List.length_map, hw, z_finC_int hS]
    have := ih (i + 1) (by omega) S hS
    simp -implicitDefEqProofs only [Prog.cs] at this
    rw [this, List.drop_eq_getElem_cons ha]
    simp -implicitDefEqProofs only [List.all_cons, inReg]
    by_cases h1 : v[i] < 0
    · have : ¬ (0 ≤ v[i]) := by omega
      simp [h1, this]
    · by_cases h2 : (p.ins.length : Int) ≤ v[i]
      · have : ¬ (v[i] < (p.ins.length : Int)) := by omega
        simp [h1, h2, this]
      · have h1' : 0 ≤ v[i] := by omega
        have h2' : v[i] < (p.ins.length : Int) := by omega
        simp [h1, h2, h1', h2', inReg]

theorem f7_l10_ok (p : Prog) (s : St) (hv : p.vals.length ≤ 9223372036854775807) (hvv : ∀ v, v ∈ p.vals → v.1.length ≤ 9223372036854775807) : ∀ (n i : Nat), i + n = p.vals.length → ∀ (S : St), Child s S →
    f7_l10 (PP T1 G X) (.vptr p.cs) (.sl 1 (p.vals.map fun v => sl1 v.1 v.2) p.gv) (I p.vals.length) (.int .i64 (i : Int)) S = .ok (I (if ((p.vals.drop i).all fun v => okVal p.ins.length v.1) = true then 0 else 3)) s := by
  intro n
  induction n with
  | zero =>
    intro i hi S hS
    rw [f7_l10_eq _ (PP_ok _ _ _)]
    have h : ¬ ((i : Int) < (p.vals.length : Int)) := by omega
    simp -implicitDefEqProofs only [↓z_ret, ↓z_val, ↓z_pick, ↓z_cond, ↓z_boxRo_agg, ↓z_boxRo_int, ↓z_boxRo_bool, ↓z_boxRo_str, ↓z_boxRo_sl, ↓z_boxRo_fn, ↓z_boxRo_vptr, ↓z_boxRo_ref, ↓z_len_sl, ↓z_len_msl, ↓z_len_str, ↓z_load1, ↓z_fa, ↓z_fa_ref, ↓z_callF, ↓z_andK, ↓z_orK, ↓z_and1, ↓z_and2, ↓z_and3, ↓z_and4, ↓z_and5, ↓z_and6, ↓z_and7, ↓z_and8, ↓z_and9, ↓z_and10, ↓z_and11, ↓z_and12, ↓z_or1, ↓z_or2, ↓z_or3, ↓z_or4, ↓z_or5, ↓z_or6, ↓z_or7, ↓z_or8, ↓z_or9, ↓z_or10, ↓z_or11, ↓z_or12, ↓z_add, ↓z_sub, ↓z_mul, ↓z_eql, ↓z_neq, ↓z_lss, ↓z_leq, ↓z_gtr, ↓z_geq, ↓z_not, ↓z_neg, ↓z_fin_int, ↓z_fin_bool, ↓z_fin_str, ↓z_ent_int, ↓z_ent_bool, ↓z_ent_str, ↓z_stn, ↓z_ldnn, ↓z_ldn0, ↓z_ldn1, ↓z_ldn2, ↓z_ldn3, ↓z_ldn4, ↓z_ldn5, ↓z_ldn6, ↓z_ldn7, ↓z_ldn8, List.drop_zero, List.drop_succ_cons, List.cons_append, List.nil_append, decide_eq_true_eq, decide_eq_false_iff_not, ite_not, ↓reduceIte, pub_agg, pub_int, pub_bool, pub_str, pub_fn, pub_vptr, pub_nilp, Nat.zero_add, List.length_cons, List.length_nil, Nat.reduceAdd, List.all_cons, List.all_nil, isCell_int, isCell_bool, isCell_str, isCell_sl, Bool.and_self, ↓z_loadn, Nat.reduceLeDiff, Nat.le_refl, List.take_succ_cons, List.take_zero, h, decide_false, Bool.false_eq_true, f7_j17_eq _ (PP_ok _ _ _), z_finC_int hS]
    rw [List.drop_of_length_le (by omega)]
    simp
  | succ n ih =>
    intro i hi S hS
    rw [f7_l10_eq _ (PP_ok _ _ _)]
    have h : (i : Int) < (p.vals.length : Int) := by omega
    have ha : i < p.vals.length := by omega
    have ea : (p.vals.map fun v => sl1 v.1 v.2)[i]? = some (sl1 p.vals[i].1 p.vals[i].2) := by simp [ha]
    have hw : IntKind.wrap .i64 ((i : Int) + 1) = ((i + 1 : Nat) : Int) := wrap_succ i (by omega)
    have hl := hvv p.vals[i] (List.getElem_mem ha)
    have key := fun S hS => f7_l13_ok G X p p.vals[i].1 s p.vals[i].2 (.ok (I (if ((p.vals.drop (i + 1)).all fun v => okVal p.ins.length v.1) = true then 0 else 3)) s) (.sl 1 (p.vals.map fun v => sl1 v.1 v.2) p.gv) p.vals.length i hl (fun S hS => by
      rw [f7_j16_eq _ (PP_ok _ _ _)]
      simp -implicitDefEqProofs only [↓z_ret, ↓z_val, ↓z_pick, ↓z_cond, ↓z_boxRo_agg, ↓z_boxRo_int, ↓z_boxRo_bool, ↓z_boxRo_str, ↓z_boxRo_sl, ↓z_boxRo_fn, ↓z_boxRo_vptr, ↓z_boxRo_ref, ↓z_len_sl, ↓z_len_msl, ↓z_len_str, ↓z_load1, ↓z_fa, ↓z_fa_ref, ↓z_callF, ↓z_andK, ↓z_orK, ↓z_and1, ↓z_and2, ↓z_and3, ↓z_and4, ↓z_and5, ↓z_and6, ↓z_and7, ↓z_and8, ↓z_and9, ↓z_and10, ↓z_and11, ↓z_and12, ↓z_or1, ↓z_or2, ↓z_or3, ↓z_or4, ↓z_or5, ↓z_or6, ↓z_or7, ↓z_or8, ↓z_or9, ↓z_or10, ↓z_or11, ↓z_or12, ↓z_add, ↓z_sub, ↓z_mul, ↓z_eql, ↓z_neq, ↓z_lss, ↓z_leq, ↓z_gtr, ↓z_geq, ↓z_not, ↓z_neg, ↓z_fin_int, ↓z_fin_bool, ↓z_fin_str, ↓z_ent_int, ↓z_ent_bool, ↓z_ent_str, ↓z_stn, ↓z_ldnn, ↓z_ldn0, ↓z_ldn1, ↓z_ldn2, ↓z_ldn3, ↓z_ldn4, ↓z_ldn5, ↓z_ldn6, ↓z_ldn7, ↓z_ldn8, List.drop_zero, List.drop_succ_cons, List.cons_append, List.nil_append, decide_eq_true_eq, decide_eq_false_iff_not, ite_not, ↓reduceIte, pub_agg, pub_int, pub_bool, pub_str, pub_fn, pub_vptr, pub_nilp, Nat.zero_add, List.length_cons, List.length_nil, Nat.reduceAdd, List.all_cons, List.all_nil, isCell_int, isCell_bool, isCell_str, isCell_sl, Bool.and_self, ↓z_loadn, Nat.reduceLeDiff, Nat.le_refl, List.take_succ_cons, List.take_zero, hw]
      exact ih (i + 1) (by omega) S hS) p.vals[i].1.length 0 (by omega) S hS
    simp -implicitDefEqProofs only [Int.natCast_zero, List.drop_zero] at key
    simp -implicitDefEqProofs only [↓z_ret, ↓z_val, ↓z_pick, ↓z_cond, ↓z_boxRo_agg, ↓z_boxRo_int, ↓z_boxRo_bool, ↓z_boxRo_str, ↓z_boxRo_sl, ↓z_boxRo_fn, ↓z_boxRo_vptr, ↓z_boxRo_ref, ↓z_len_sl, ↓z_len_msl, ↓z_len_str, ↓z_load1, ↓z_fa, ↓z_fa_ref, ↓z_callF, ↓z_andK, ↓z_orK, ↓z_and1, ↓z_and2, ↓z_and3, ↓z_and4, ↓z_and5, ↓z_and6, ↓z_and7, ↓z_and8, ↓z_and9, ↓z_and10, ↓z_and11, ↓z_and12, ↓z_or1, ↓z_or2, ↓z_or3, ↓z_or4, ↓z_or5, ↓z_or6, ↓z_or7, ↓z_or8, ↓z_or9, ↓z_or10, ↓z_or11, ↓z_or12, ↓z_add, ↓z_sub, ↓z_mul, ↓z_eql, ↓z_neq, ↓z_lss, ↓z_leq, ↓z_gtr, ↓z_geq, ↓z_not, ↓z_neg, ↓z_fin_int, ↓z_fin_bool, ↓z_fin_str, ↓z_ent_int, ↓z_ent_bool, ↓z_ent_str, ↓z_stn, ↓z_ldnn, ↓z_ldn0, ↓z_ldn1, ↓z_ldn2, ↓z_ldn3, ↓z_ldn4, ↓z_ldn5, ↓z_ldn6, ↓z_ldn7, ↓z_ldn8, List.drop_zero, List.drop_succ_cons, List.cons_append, List.nil_append, decide_eq_true_eq, decide_eq_false_iff_not, ite_not, ↓reduceIte, pub_agg, pub_int, pub_bool, pub_str, pub_fn, pub_vptr, pub_nilp, Nat.zero_add, List.length_cons, List.length_nil, Nat.reduceAdd, List.all_cons, List.all_nil, isCell_int, isCell_bool, isCell_str, isCell_sl, Bool.and_self, ↓z_loadn, Nat.reduceLeDiff, Nat.le_refl, List.take_succ_cons, List.take_zero, h, decide_true, if_true, f7_j11_eq _ (PP_ok _ _ _), f7_j12_eq _ (PP_ok _ _ _), z_idx _ _ _ _ _ _ ea, AV.cells, List.length_map, z_finC_int hS]
    simp -implicitDefEqProofs only [key S hS]
    rw [List.drop_eq_getElem_cons ha]
    rw [List.all_cons, show okVal p.ins.length p.vals[i].1 = (decide (p.vals[i].1.length = 3 ∨ p.vals[i].1.length = 7) && p.vals[i].1.all (inReg p.ins.length)) from rfl]
    generalize ((p.vals.drop (i + 1)).all fun v => okVal p.ins.length v.1) = Q
    by_cases h3 : p.vals[i].1.length = 3
    · by_cases hall : p.vals[i].1.all (inReg p.ins.length) = true <;> simp [h3, hall]
    · by_cases h7 : p.vals[i].1.length = 7
      · by_cases hall : p.vals[i].1.all (inReg p.ins.length) = true <;> simp [h7, hall]
      · have e3 : ¬ (p.vals[i].1.length : Int) = 3 := by omega
        have e7 : ¬ (p.vals[i].1.length : Int) = 7 := by omega
        simp [h3, h7, e3, e7]

/-- The instructions' loop. -/
theorem f7_l2_ok (p : Prog) (s : St) (h8 : p.ins.length ≤ 8192) (h5 : p.roots.length ≤ 5) (R : Res) (hR : ∀ S, Child s S → f7_j9 (PP T1 G X) (.vptr p.cs) S = R) : ∀ (n i nx : Nat), i + n = p.ins.length → nx ≤ p.roots.length → ∀ (S : St), Child s S →
    f7_l2 (PP T1 G X) (.vptr p.cs) (.int .i64 (nx : Int)) (.sl 3 (p.ins.map Ins.enc) p.gi) (I p.ins.length) (.int .i64 (i : Int)) S = if scan p.roots p.inputs (p.ins.drop i) i nx = some p.roots.length then R else .ok (I 3) s := by
  intro n
  induction n with
  | zero =>
    intro i nx hi hnx S hS
    rw [f7_l2_eq _ (PP_ok _ _ _)]
    have h : ¬ ((i : Int) < (p.ins.length : Int)) := by omega
    simp -implicitDefEqProofs only [↓z_ret, ↓z_val, ↓z_pick, ↓z_cond, ↓z_boxRo_agg, ↓z_boxRo_int, ↓z_boxRo_bool, ↓z_boxRo_str, ↓z_boxRo_sl, ↓z_boxRo_fn, ↓z_boxRo_vptr, ↓z_boxRo_ref, ↓z_len_sl, ↓z_len_msl, ↓z_len_str, ↓z_load1, ↓z_fa, ↓z_fa_ref, ↓z_callF, ↓z_andK, ↓z_orK, ↓z_and1, ↓z_and2, ↓z_and3, ↓z_and4, ↓z_and5, ↓z_and6, ↓z_and7, ↓z_and8, ↓z_and9, ↓z_and10, ↓z_and11, ↓z_and12, ↓z_or1, ↓z_or2, ↓z_or3, ↓z_or4, ↓z_or5, ↓z_or6, ↓z_or7, ↓z_or8, ↓z_or9, ↓z_or10, ↓z_or11, ↓z_or12, ↓z_add, ↓z_sub, ↓z_mul, ↓z_eql, ↓z_neq, ↓z_lss, ↓z_leq, ↓z_gtr, ↓z_geq, ↓z_not, ↓z_neg, ↓z_fin_int, ↓z_fin_bool, ↓z_fin_str, ↓z_ent_int, ↓z_ent_bool, ↓z_ent_str, ↓z_stn, ↓z_ldnn, ↓z_ldn0, ↓z_ldn1, ↓z_ldn2, ↓z_ldn3, ↓z_ldn4, ↓z_ldn5, ↓z_ldn6, ↓z_ldn7, ↓z_ldn8, List.drop_zero, List.drop_succ_cons, List.cons_append, List.nil_append, decide_eq_true_eq, decide_eq_false_iff_not, ite_not, ↓reduceIte, pub_agg, pub_int, pub_bool, pub_str, pub_fn, pub_vptr, pub_nilp, Nat.zero_add, List.length_cons, List.length_nil, Nat.reduceAdd, List.all_cons, List.all_nil, isCell_int, isCell_bool, isCell_str, isCell_sl, Bool.and_self, ↓z_loadn, Nat.reduceLeDiff, Nat.le_refl, List.take_succ_cons, List.take_zero, h, decide_false, Bool.false_eq_true, f7_j8_eq _ (PP_ok _ _ _), Prog.cs, List.length_map, z_finC_int hS]
    have := hR S hS
    simp -implicitDefEqProofs only [Prog.cs] at this
    rw [this, List.drop_of_length_le (by omega)]
    by_cases e : nx = p.roots.length
    · simp [scan, e]
    · have e' : ¬ (nx : Int) = (p.roots.length : Int) := by omega
      simp [scan, e, e']
  | succ n ih =>
    intro i nx hi hnx S hS
    rw [f7_l2_eq _ (PP_ok _ _ _)]
    have h : (i : Int) < (p.ins.length : Int) := by omega
    have ha : i < p.ins.length := by omega
    have ea : (p.ins.map Ins.enc)[i]? = some p.ins[i].enc := by simp [ha]
    have hw : IntKind.wrap .i64 ((i : Int) + 1) = ((i + 1 : Nat) : Int) := wrap_succ i (by omega)
    have hw2 : IntKind.wrap .i64 ((nx : Int) + 1) = ((nx + 1 : Nat) : Int) := wrap_succ nx (by omega)
    have hc : ∀ S, callω T1 G X 18 [.agg [.int .i64 p.ins[i].op, .int .i64 p.ins[i].a, .int .i64 p.ins[i].b], .int .i64 (i : Int), .int .i64 p.inputs] S = .ok (.bool (okIns p.ins[i] i p.inputs)) S := fun S => f18_ok G X p.ins[i] i p.inputs S
    rw [List.drop_eq_getElem_cons ha]
    generalize hx : p.ins[i] = x at *
    simp -implicitDefEqProofs only [↓z_ret, ↓z_val, ↓z_pick, ↓z_cond, ↓z_boxRo_agg, ↓z_boxRo_int, ↓z_boxRo_bool, ↓z_boxRo_str, ↓z_boxRo_sl, ↓z_boxRo_fn, ↓z_boxRo_vptr, ↓z_boxRo_ref, ↓z_len_sl, ↓z_len_msl, ↓z_len_str, ↓z_load1, ↓z_fa, ↓z_fa_ref, ↓z_callF, ↓z_andK, ↓z_orK, ↓z_and1, ↓z_and2, ↓z_and3, ↓z_and4, ↓z_and5, ↓z_and6, ↓z_and7, ↓z_and8, ↓z_and9, ↓z_and10, ↓z_and11, ↓z_and12, ↓z_or1, ↓z_or2, ↓z_or3, ↓z_or4, ↓z_or5, ↓z_or6, ↓z_or7, ↓z_or8, ↓z_or9, ↓z_or10, ↓z_or11, ↓z_or12, ↓z_add, ↓z_sub, ↓z_mul, ↓z_eql, ↓z_neq, ↓z_lss, ↓z_leq, ↓z_gtr, ↓z_geq, ↓z_not, ↓z_neg, ↓z_fin_int, ↓z_fin_bool, ↓z_fin_str, ↓z_ent_int, ↓z_ent_bool, ↓z_ent_str, ↓z_stn, ↓z_ldnn, ↓z_ldn0, ↓z_ldn1, ↓z_ldn2, ↓z_ldn3, ↓z_ldn4, ↓z_ldn5, ↓z_ldn6, ↓z_ldn7, ↓z_ldn8, List.drop_zero, List.drop_succ_cons, List.cons_append, List.nil_append, decide_eq_true_eq, decide_eq_false_iff_not, ite_not, ↓reduceIte, pub_agg, pub_int, pub_bool, pub_str, pub_fn, pub_vptr, pub_nilp, Nat.zero_add, List.length_cons, List.length_nil, Nat.reduceAdd, List.all_cons, List.all_nil, isCell_int, isCell_bool, isCell_str, isCell_sl, Bool.and_self, ↓z_loadn, Nat.reduceLeDiff, Nat.le_refl, List.take_succ_cons, List.take_zero, h, decide_true, if_true, f7_j3_eq _ (PP_ok _ _ _), f7_j4_eq _ (PP_ok _ _ _), f7_j5_eq _ (PP_ok _ _ _), f7_j6_eq _ (PP_ok _ _ _), f7_j7_eq _ (PP_ok _ _ _), z_idx _ _ _ _ _ _ ea, Ins.enc, Ins.cs, AV.cells, Prog.cs, z_call0 (hc _), z_finC_int (hS.new _), hw, hw2]
    have ih' := fun nx hnx o => ih (i + 1) nx (by omega) hnx (S.new o) (hS.new o)
    simp -implicitDefEqProofs only [Prog.cs] at ih'
    simp -implicitDefEqProofs only [scan]
    by_cases hok : okIns x i p.inputs = true
    · simp -implicitDefEqProofs only [hok, Bool.not_true, Bool.false_eq_true, ↓reduceIte]
      by_cases h6 : x.op = 6
      · simp -implicitDefEqProofs only [h6, ↓reduceIte, List.length_map]
        by_cases hr : nx = p.roots.length
        · have e1 : (nx : Int) = (p.roots.length : Int) := by omega
          have e2 : p.roots[nx]? = none := List.getElem?_eq_none (by omega)
          simp [e1, e2]
        · have e1 : ¬ (nx : Int) = (p.roots.length : Int) := by omega
          have hlt : nx < p.roots.length := by omega
          have er : (p.roots.map I)[nx]? = some (I p.roots[nx]) := by simp [hlt]
          have er2 : p.roots[nx]? = some p.roots[nx] := List.getElem?_eq_getElem hlt
          simp -implicitDefEqProofs only [e1, ↓z_ret, ↓z_val, ↓z_pick, ↓z_cond, ↓z_boxRo_agg, ↓z_boxRo_int, ↓z_boxRo_bool, ↓z_boxRo_str, ↓z_boxRo_sl, ↓z_boxRo_fn, ↓z_boxRo_vptr, ↓z_boxRo_ref, ↓z_len_sl, ↓z_len_msl, ↓z_len_str, ↓z_load1, ↓z_fa, ↓z_fa_ref, ↓z_callF, ↓z_andK, ↓z_orK, ↓z_and1, ↓z_and2, ↓z_and3, ↓z_and4, ↓z_and5, ↓z_and6, ↓z_and7, ↓z_and8, ↓z_and9, ↓z_and10, ↓z_and11, ↓z_and12, ↓z_or1, ↓z_or2, ↓z_or3, ↓z_or4, ↓z_or5, ↓z_or6, ↓z_or7, ↓z_or8, ↓z_or9, ↓z_or10, ↓z_or11, ↓z_or12, ↓z_add, ↓z_sub, ↓z_mul, ↓z_eql, ↓z_neq, ↓z_lss, ↓z_leq, ↓z_gtr, ↓z_geq, ↓z_not, ↓z_neg, ↓z_fin_int, ↓z_fin_bool, ↓z_fin_str, ↓z_ent_int, ↓z_ent_bool, ↓z_ent_str, ↓z_stn, ↓z_ldnn, ↓z_ldn0, ↓z_ldn1, ↓z_ldn2, ↓z_ldn3, ↓z_ldn4, ↓z_ldn5, ↓z_ldn6, ↓z_ldn7, ↓z_ldn8, List.drop_zero, List.drop_succ_cons, List.cons_append, List.nil_append, decide_eq_true_eq, decide_eq_false_iff_not, ite_not, ↓reduceIte, pub_agg, pub_int, pub_bool, pub_str, pub_fn, pub_vptr, pub_nilp, Nat.zero_add, List.length_cons, List.length_nil, Nat.reduceAdd, List.all_cons, List.all_nil, isCell_int, isCell_bool, isCell_str, isCell_sl, Bool.and_self, ↓z_loadn, Nat.reduceLeDiff, Nat.le_refl, List.take_succ_cons, List.take_zero, z_idx _ _ _ _ _ _ er, AV.cells, z_finC_int (hS.new _), er2]
          by_cases hri : p.roots[nx] = (i : Int)
          · simp -implicitDefEqProofs only [hri, not_true_eq_false, ↓reduceIte, ih' (nx + 1) (by omega)]
          · simp [hri]
      · simp -implicitDefEqProofs only [h6, ↓reduceIte, ih' nx hnx]
    · simp [hok]
theorem f7_ok (p : Prog) (s : St) (hv : p.vals.length ≤ 9223372036854775807) (hvv : ∀ v, v ∈ p.vals → v.1.length ≤ 9223372036854775807) : callω T1 G X 7 [p.enc] s = .ok (I p.check) s := by
  rw [f7_call, f7_eq]
  simp -implicitDefEqProofs only [Prog.enc, Prog.cs, ↓z_ret, ↓z_val, ↓z_pick, ↓z_cond, ↓z_boxRo_agg, ↓z_boxRo_int, ↓z_boxRo_bool, ↓z_boxRo_str, ↓z_boxRo_sl, ↓z_boxRo_fn, ↓z_boxRo_vptr, ↓z_boxRo_ref, ↓z_len_sl, ↓z_len_msl, ↓z_len_str, ↓z_load1, ↓z_fa, ↓z_fa_ref, ↓z_callF, ↓z_andK, ↓z_orK, ↓z_and1, ↓z_and2, ↓z_and3, ↓z_and4, ↓z_and5, ↓z_and6, ↓z_and7, ↓z_and8, ↓z_and9, ↓z_and10, ↓z_and11, ↓z_and12, ↓z_or1, ↓z_or2, ↓z_or3, ↓z_or4, ↓z_or5, ↓z_or6, ↓z_or7, ↓z_or8, ↓z_or9, ↓z_or10, ↓z_or11, ↓z_or12, ↓z_add, ↓z_sub, ↓z_mul, ↓z_eql, ↓z_neq, ↓z_lss, ↓z_leq, ↓z_gtr, ↓z_geq, ↓z_not, ↓z_neg, ↓z_fin_int, ↓z_fin_bool, ↓z_fin_str, ↓z_ent_int, ↓z_ent_bool, ↓z_ent_str, ↓z_stn, ↓z_ldnn, ↓z_ldn0, ↓z_ldn1, ↓z_ldn2, ↓z_ldn3, ↓z_ldn4, ↓z_ldn5, ↓z_ldn6, ↓z_ldn7, ↓z_ldn8, List.drop_zero, List.drop_succ_cons, List.cons_append, List.nil_append, decide_eq_true_eq, decide_eq_false_iff_not, ite_not, ↓reduceIte, pub_agg, pub_int, pub_bool, pub_str, pub_fn, pub_vptr, pub_nilp, Nat.zero_add, List.length_cons, List.length_nil, Nat.reduceAdd, List.all_cons, List.all_nil, isCell_int, isCell_bool, isCell_str, isCell_sl, Bool.and_self, ↓z_loadn, Nat.reduceLeDiff, Nat.le_refl, List.take_succ_cons, List.take_zero, List.length_map, f7_j1_eq _ (PP_ok _ _ _)]
  have h10 := fun S hS => f7_l10_ok G X p s hv hvv p.vals.length 0 (by omega) S hS
  simp -implicitDefEqProofs only [Int.natCast_zero, List.drop_zero, Prog.cs] at h10
  by_cases c1 : p.inputs < 0
  · simp [c1, Prog.check]
  by_cases c2 : 20 < p.inputs
  · simp [c1, c2, Prog.check]
  by_cases c3 : 8192 < p.ins.length
  · have c3' : (8192 : Int) < (p.ins.length : Int) := by omega
    simp [c1, c2, c3, c3', Prog.check]
  by_cases c4 : 5 < p.roots.length
  · have c4' : (5 : Int) < (p.roots.length : Int) := by omega
    simp [c1, c2, c3, c4, c4', Prog.check]
  have c3' : ¬ (8192 : Int) < (p.ins.length : Int) := by omega
  have c4' : ¬ (5 : Int) < (p.roots.length : Int) := by omega
  have h2 := f7_l2_ok G X p s (by omega) (by omega) (.ok (I (if (p.vals.all fun v => okVal p.ins.length v.1) = true then 0 else 3)) s) (fun S hS => by
    rw [f7_j9_eq _ (PP_ok _ _ _)]
    simp -implicitDefEqProofs only [Prog.cs, ↓z_ret, ↓z_val, ↓z_pick, ↓z_cond, ↓z_boxRo_agg, ↓z_boxRo_int, ↓z_boxRo_bool, ↓z_boxRo_str, ↓z_boxRo_sl, ↓z_boxRo_fn, ↓z_boxRo_vptr, ↓z_boxRo_ref, ↓z_len_sl, ↓z_len_msl, ↓z_len_str, ↓z_load1, ↓z_fa, ↓z_fa_ref, ↓z_callF, ↓z_andK, ↓z_orK, ↓z_and1, ↓z_and2, ↓z_and3, ↓z_and4, ↓z_and5, ↓z_and6, ↓z_and7, ↓z_and8, ↓z_and9, ↓z_and10, ↓z_and11, ↓z_and12, ↓z_or1, ↓z_or2, ↓z_or3, ↓z_or4, ↓z_or5, ↓z_or6, ↓z_or7, ↓z_or8, ↓z_or9, ↓z_or10, ↓z_or11, ↓z_or12, ↓z_add, ↓z_sub, ↓z_mul, ↓z_eql, ↓z_neq, ↓z_lss, ↓z_leq, ↓z_gtr, ↓z_geq, ↓z_not, ↓z_neg, ↓z_fin_int, ↓z_fin_bool, ↓z_fin_str, ↓z_ent_int, ↓z_ent_bool, ↓z_ent_str, ↓z_stn, ↓z_ldnn, ↓z_ldn0, ↓z_ldn1, ↓z_ldn2, ↓z_ldn3, ↓z_ldn4, ↓z_ldn5, ↓z_ldn6, ↓z_ldn7, ↓z_ldn8, List.drop_zero, List.drop_succ_cons, List.cons_append, List.nil_append, decide_eq_true_eq, decide_eq_false_iff_not, ite_not, ↓reduceIte, pub_agg, pub_int, pub_bool, pub_str, pub_fn, pub_vptr, pub_nilp, Nat.zero_add, List.length_cons, List.length_nil, Nat.reduceAdd, List.all_cons, List.all_nil, isCell_int, isCell_bool, isCell_str, isCell_sl, Bool.and_self, ↓z_loadn, Nat.reduceLeDiff, Nat.le_refl, List.take_succ_cons, List.take_zero, List.length_map, h10 S hS]) p.ins.length 0 0 (by omega) (by omega) s.enter (.enter s)
  simp -implicitDefEqProofs only [Int.natCast_zero, List.drop_zero, Prog.cs] at h2
  simp -implicitDefEqProofs only [c1, c2, c3', c4', if_false, h2, Prog.check, c3, c4, or_self]
  split
  · rename_i e
    simp -implicitDefEqProofs only [e, true_and]
  · rename_i e
    simp -implicitDefEqProofs only [e, false_and, if_false]
end Go.AbY
end
section
namespace Go.AbY
open Go.Ab
variable (G : Nat → AV) (X : Nat → List AV → St → Res)
set_option linter.unusedSimpArgs false
set_option linter.unusedVariables false
abbrev W64 (n : Int) : Int := IntKind.wrap .i64 n
/-- The degree of an instruction, by those before it. -/
def deg1 (out : List Int) (x : Ins) : Int :=
  if x.op = 1 then 1
  else if x.op = 3 ∨ x.op = 4 then max (out.getD x.a.toNat 0) (out.getD x.b.toNat 0)
  else if x.op = 5 then W64 (out.getD x.a.toNat 0 + out.getD x.b.toNat 0)
  else if x.op = 6 then W64 ((W64 (out.getD x.a.toNat 0 + 1)).tdiv 2)
  else 0
def degs : List Ins → List Int → Option (List Int)
  | [], out => some out
  | x :: xs, out => if 1073741824 < deg1 out x then none else degs xs (out ++ [deg1 out x])
/-- Every instruction names earlier registers. -/
def okArgs : List Ins → Nat → Bool
  | [], _ => true
  | x :: xs, i => (if x.op = 3 ∨ x.op = 4 ∨ x.op = 5 then decide ((0 ≤ x.a ∧ x.a < (i : Int)) ∧ (0 ≤ x.b ∧ x.b < (i : Int))) else if x.op = 6 then decide (0 ≤ x.a ∧ x.a < (i : Int)) else true) && okArgs xs (i + 1)
theorem okArgs_scan (roots : List Int) (inputs : Int) : ∀ (xs : List Ins) (i nx m : Nat), scan roots inputs xs i nx = some m → okArgs xs i = true
  | [], _, _, _, _ => rfl
  | x :: xs, i, nx, m, h => by
    simp -implicitDefEqProofs only [scan] at h
    split at h
    · rename_i hok
      have hx : (if x.op = 3 ∨ x.op = 4 ∨ x.op = 5 then decide ((0 ≤ x.a ∧ x.a < (i : Int)) ∧ (0 ≤ x.b ∧ x.b < (i : Int))) else if x.op = 6 then decide (0 ≤ x.a ∧ x.a < (i : Int)) else true) = true := by
        unfold okIns at hok
        grind
      simp -implicitDefEqProofs only [okArgs, hx, Bool.true_and]
      split at h
      · split at h
        · exact okArgs_scan roots inputs xs _ _ m h
        · cases h
      · exact okArgs_scan roots inputs xs _ _ m h
    · cases h
theorem max_if (a b : Int) : (if b > a then b else a) = max a b := by split <;> omega

theorem gfin_map {α β : Type} (f : α → β) (l : List α) : gfin (l.map f) = gfin l := by cases l <;> rfl
/-- What Degree hands back. -/
def degR (r : Option (List Int)) (g : List Int → Gr) : AV :=
  match r with
  | none => .tup [.sl 1 [] .nil, I 2]
  | some l => .tup [sl1 l (g l), I 0]

theorem idx_out (out : List Int) (g : Gr) (a : Int) (h0 : 0 ≤ a) (h1 : a < (out.length : Int)) (k : K1) (S : St) : (PP T1 G X).idx S k 1 (.sl 1 (out.map I) g) (.int .i64 a) = k (.vptr [I (out.getD a.toNat 0)]) S := by
  have : a.toNat < out.length := by omega
  exact z_idxI 1 (out.map I) g .i64 a (I (out.getD a.toNat 0)) h0 (by simp [List.getD, this])
end Go.AbY
end
section
namespace Go.AbY
open Go.Ab
theorem refless_ints : ∀ l : List Int, AV.reflessL (l.map I) = true
  | [] => rfl
  | x :: l => by simp -implicitDefEqProofs only [List.map_cons, AV.reflessL, AV.refless, refless_ints l, Bool.and_self]
variable (G : Nat → AV) (X : Nat → List AV → St → Res)
set_option linter.unusedSimpArgs false
set_option linter.unusedVariables false
theorem check0 {p : Prog} (h : p.check = 0) : p.ins.length ≤ 8192 ∧ okArgs p.ins 0 = true ∧ scan p.roots p.inputs p.ins 0 0 = some p.roots.length ∧ (p.vals.all fun v => okVal p.ins.length v.1) = true := by
  unfold Prog.check at h
  split at h
  · cases h
  · rename_i h1
    split at h
    · rename_i h2
      exact ⟨by omega, okArgs_scan _ _ _ _ _ _ h2.1, h2⟩
    · cases h
def degA (p : Prog) (g : List Int → Gr) : AV := if p.check = 0 then degR (degs p.ins []) g else .tup [.sl 1 [] .nil, I p.check]
/-! The program's own Degree: it makes the list at full length first. -/
def full (out : List Int) (n : Nat) : List AV := out.map I ++ List.replicate (n - out.length) (I 0)
theorem full_len (out : List Int) (n : Nat) (h : out.length ≤ n) : (full out n).length = n := by simp [full]; omega
theorem full_set (out : List Int) (n : Nat) (d : Int) (h : out.length < n) : (full out n).set out.length (I d) = full (out ++ [d]) n := by
  unfold full
  obtain ⟨m, hm⟩ : ∃ m, n - out.length = m + 1 := ⟨n - out.length - 1, by omega⟩
  have hm' : n - (out ++ [d]).length = m := by simp; omega
  rw [hm, hm', List.replicate_succ]
  rw [show out.length = (out.map I).length from by simp, List.set_append_right _ _ (Nat.le_refl _)]
  simp
theorem full_get (out : List Int) (n a : Nat) (h : a < out.length) : (full out n)[a]? = some (I (out.getD a 0)) := by
  unfold full
  rw [List.getElem?_append_left (by simpa using h)]
  simp [List.getD, h]
theorem full_full (out : List Int) : full out out.length = out.map I := by simp [full]
theorem own_new {S : St} {j : Nat} {o : AObj} (h : S.own[j]? = some o) (o' : AObj) : (S.new o').own[j]? = some o := by
  have hj := (List.getElem?_eq_some_iff.1 h).1
  simp -implicitDefEqProofs only [St.new]
  rw [List.getElem?_append_left hj]
  exact h
theorem idx_own (out : List Int) (j n : Nat) (a : Int) (h0 : 0 ≤ a) (h1 : a < (out.length : Int)) (k : K1) (S : St) : (PP T1 G X).idx S k 1 (.msl (.l j) 0 out.length n 1) (.int .i64 a) = k (.ref (.l j) (0 + a.toNat * 1)) S := by
  obtain ⟨b, rfl⟩ := Int.eq_ofNat_of_zero_le h0
  exact z_idx_msl (.l j) 0 out.length n 1 .i64 b (by omega)
theorem ld_own (out : List Int) (j n : Nat) (a : Nat) (h1 : a < out.length) (k : K1) (S : St) (h : S.own[j]? = some (.cells (full out n))) : (PP T1 G X).load S k none (.ref (.l j) (0 + a * 1)) = k (I (out.getD a 0)) S :=
  z_ld_own h (by simpa using full_get out n a h1)
theorem f11_step (p : Prog) (xs : List Ins) (s : St) (v19 v20 : AV) (i j n : Nat) (x : Ins) (out : List Int) (ho : out.length = i) (hi : i < n) (h8 : n ≤ 8192) (S : St) (hS : Child s S) (hg : S.own[j]? = some (.cells (full out n)))
    (ih : ∀ d S', Child s S' → S'.own[j]? = some (.cells (full (out ++ [d]) n)) → f11_l2 (PP T1 G X) (.msl (.l j) 0 (i + 1) n 1) v19 v20 (.int .i64 ((i + 1 : Nat) : Int)) S' = .ok (degR (degs xs (out ++ [d])) fun _ => .exact) s) (d : Int) (hd : d = deg1 out x) :
    f11_j4 (PP T1 G X) (.msl (.l j) 0 i n 1) (I d) v19 v20 (.int .i64 (i : Int)) S = .ok (degR (degs (x :: xs) out) fun _ => .exact) s := by
  subst hd
  have hw : IntKind.wrap .i64 ((i : Int) + 1) = ((i + 1 : Nat) : Int) := wrap_succ i (by omega)
  simp -implicitDefEqProofs only [degs]
  rw [f11_j4_eq _ (PP_ok _ _ _)]
  by_cases hd : 1073741824 < deg1 out x
  · simp -implicitDefEqProofs only [↓z_ret, ↓z_val, ↓z_pick, ↓z_cond, ↓z_boxRo_agg, ↓z_boxRo_int, ↓z_boxRo_bool, ↓z_boxRo_str, ↓z_boxRo_sl, ↓z_boxRo_fn, ↓z_boxRo_vptr, ↓z_boxRo_ref, ↓z_len_sl, ↓z_len_msl, ↓z_len_str, ↓z_load1, ↓z_fa, ↓z_fa_ref, ↓z_callF, ↓z_andK, ↓z_orK, ↓z_and1, ↓z_and2, ↓z_and3, ↓z_and4, ↓z_and5, ↓z_and6, ↓z_and7, ↓z_and8, ↓z_and9, ↓z_and10, ↓z_and11, ↓z_and12, ↓z_or1, ↓z_or2, ↓z_or3, ↓z_or4, ↓z_or5, ↓z_or6, ↓z_or7, ↓z_or8, ↓z_or9, ↓z_or10, ↓z_or11, ↓z_or12, ↓z_add, ↓z_sub, ↓z_mul, ↓z_eql, ↓z_neq, ↓z_lss, ↓z_leq, ↓z_gtr, ↓z_geq, ↓z_not, ↓z_neg, ↓z_fin_int, ↓z_fin_bool, ↓z_fin_str, ↓z_ent_int, ↓z_ent_bool, ↓z_ent_str, ↓z_stn, ↓z_ldnn, ↓z_ldn0, ↓z_ldn1, ↓z_ldn2, ↓z_ldn3, ↓z_ldn4, ↓z_ldn5, ↓z_ldn6, ↓z_ldn7, ↓z_ldn8, List.drop_zero, List.drop_succ_cons, List.cons_append, List.nil_append, decide_eq_true_eq, decide_eq_false_iff_not, ite_not, ↓reduceIte, pub_agg, pub_int, pub_bool, pub_str, pub_fn, pub_vptr, pub_nilp, Nat.zero_add, List.length_cons, List.length_nil, Nat.reduceAdd, List.all_cons, List.all_nil, isCell_int, isCell_bool, isCell_str, isCell_sl, Bool.and_self, ↓z_loadn, Nat.reduceLeDiff, Nat.le_refl, List.take_succ_cons, List.take_zero, hd, decide_true, if_true]
    exact z_finC2 hS _ _ _ _ rfl rfl
  · simp -implicitDefEqProofs only [↓z_ret, ↓z_val, ↓z_pick, ↓z_cond, ↓z_boxRo_agg, ↓z_boxRo_int, ↓z_boxRo_bool, ↓z_boxRo_str, ↓z_boxRo_sl, ↓z_boxRo_fn, ↓z_boxRo_vptr, ↓z_boxRo_ref, ↓z_len_sl, ↓z_len_msl, ↓z_len_str, ↓z_load1, ↓z_fa, ↓z_fa_ref, ↓z_callF, ↓z_andK, ↓z_orK, ↓z_and1, ↓z_and2, ↓z_and3, ↓z_and4, ↓z_and5, ↓z_and6, ↓z_and7, ↓z_and8, ↓z_and9, ↓z_and10, ↓z_and11, ↓z_and12, ↓z_or1, ↓z_or2, ↓z_or3, ↓z_or4, ↓z_or5, ↓z_or6, ↓z_or7, ↓z_or8, ↓z_or9, ↓z_or10, ↓z_or11, ↓z_or12, ↓z_add, ↓z_sub, ↓z_mul, ↓z_eql, ↓z_neq, ↓z_lss, ↓z_leq, ↓z_gtr, ↓z_geq, ↓z_not, ↓z_neg, ↓z_fin_int, ↓z_fin_bool, ↓z_fin_str, ↓z_ent_int, ↓z_ent_bool, ↓z_ent_str, ↓z_stn, ↓z_ldnn, ↓z_ldn0, ↓z_ldn1, ↓z_ldn2, ↓z_ldn3, ↓z_ldn4, ↓z_ldn5, ↓z_ldn6, ↓z_ldn7, ↓z_ldn8, List.drop_zero, List.drop_succ_cons, List.cons_append, List.nil_append, decide_eq_true_eq, decide_eq_false_iff_not, ite_not, ↓reduceIte, pub_agg, pub_int, pub_bool, pub_str, pub_fn, pub_vptr, pub_nilp, Nat.zero_add, List.length_cons, List.length_nil, Nat.reduceAdd, List.all_cons, List.all_nil, isCell_int, isCell_bool, isCell_str, isCell_sl, Bool.and_self, ↓z_loadn, Nat.reduceLeDiff, Nat.le_refl, List.take_succ_cons, List.take_zero, hd, decide_false, if_false, f11_j5_eq _ (PP_ok _ _ _), z_bs_int]
    rw [z_append_msl hg hi (full_len _ _ (by omega)) rfl rfl]
    rw [f11_j6_eq _ (PP_ok _ _ _)]
    simp -implicitDefEqProofs only [↓z_ret, ↓z_val, ↓z_pick, ↓z_cond, ↓z_boxRo_agg, ↓z_boxRo_int, ↓z_boxRo_bool, ↓z_boxRo_str, ↓z_boxRo_sl, ↓z_boxRo_fn, ↓z_boxRo_vptr, ↓z_boxRo_ref, ↓z_len_sl, ↓z_len_msl, ↓z_len_str, ↓z_load1, ↓z_fa, ↓z_fa_ref, ↓z_callF, ↓z_andK, ↓z_orK, ↓z_and1, ↓z_and2, ↓z_and3, ↓z_and4, ↓z_and5, ↓z_and6, ↓z_and7, ↓z_and8, ↓z_and9, ↓z_and10, ↓z_and11, ↓z_and12, ↓z_or1, ↓z_or2, ↓z_or3, ↓z_or4, ↓z_or5, ↓z_or6, ↓z_or7, ↓z_or8, ↓z_or9, ↓z_or10, ↓z_or11, ↓z_or12, ↓z_add, ↓z_sub, ↓z_mul, ↓z_eql, ↓z_neq, ↓z_lss, ↓z_leq, ↓z_gtr, ↓z_geq, ↓z_not, ↓z_neg, ↓z_fin_int, ↓z_fin_bool, ↓z_fin_str, ↓z_ent_int, ↓z_ent_bool, ↓z_ent_str, ↓z_stn, ↓z_ldnn, ↓z_ldn0, ↓z_ldn1, ↓z_ldn2, ↓z_ldn3, ↓z_ldn4, ↓z_ldn5, ↓z_ldn6, ↓z_ldn7, ↓z_ldn8, List.drop_zero, List.drop_succ_cons, List.cons_append, List.nil_append, decide_eq_true_eq, decide_eq_false_iff_not, ite_not, ↓reduceIte, pub_agg, pub_int, pub_bool, pub_str, pub_fn, pub_vptr, pub_nilp, Nat.zero_add, List.length_cons, List.length_nil, Nat.reduceAdd, List.all_cons, List.all_nil, isCell_int, isCell_bool, isCell_str, isCell_sl, Bool.and_self, ↓z_loadn, Nat.reduceLeDiff, Nat.le_refl, List.take_succ_cons, List.take_zero, hw]
    subst ho
    refine ih (deg1 out x) _ ⟨hS.up, hS.ro⟩ ?_
    have hj := (List.getElem?_eq_some_iff.1 hg).1
    rw [full_set _ _ _ hi]
    simp [hj]
theorem f11_j7_ok (v19 v20 : AV) (R : Res) (x : Ins) (out : List Int) (S : St) (j n : Nat) (hg : S.own[j]? = some (.cells (full out n)))
    (ha : (if x.op = 3 ∨ x.op = 4 ∨ x.op = 5 then decide ((0 ≤ x.a ∧ x.a < (out.length : Int)) ∧ (0 ≤ x.b ∧ x.b < (out.length : Int))) else if x.op = 6 then decide (0 ≤ x.a ∧ x.a < (out.length : Int)) else true) = true)
    (h1 : ¬ x.op = 1)
    (hk : ∀ d, d = deg1 out x → f11_j4 (PP T1 G X) (.msl (.l j) 0 out.length n 1) (I d) v19 v20 (.int .i64 (out.length : Int)) (S.new (.cells [I x.op, I x.a, I x.b])) = R) :
    f11_j7 (PP T1 G X) (.msl (.l j) 0 out.length n 1) (.ref (.l S.own.length) 0) (I 0) v19 v20 (.int .i64 (out.length : Int)) (I x.op) (.bool (decide (x.op = 3 ∨ x.op = 4))) (S.new (.cells [I x.op, I x.a, I x.b])) = R := by
  rw [f11_j7_eq _ (PP_ok _ _ _)]
  have hg' := own_new hg (.cells [I x.op, I x.a, I x.b])
  by_cases h3 : x.op = 3 ∨ x.op = 4
  · have h3' : x.op = 3 ∨ x.op = 4 ∨ x.op = 5 := by omega
    simp -implicitDefEqProofs only [h3', ↓reduceIte, decide_eq_true_eq] at ha
    have la := fun k => ld_own G X out j n x.a.toNat (by omega) k _ hg'
    have lb := fun k => ld_own G X out j n x.b.toNat (by omega) k _ hg'
    simp -implicitDefEqProofs only [Nat.zero_add] at la lb
    simp -implicitDefEqProofs only [eq_true h3, decide_true, if_true, ↓z_ret, ↓z_val, ↓z_pick, ↓z_cond, ↓z_boxRo_agg, ↓z_boxRo_int, ↓z_boxRo_bool, ↓z_boxRo_str, ↓z_boxRo_sl, ↓z_boxRo_fn, ↓z_boxRo_vptr, ↓z_boxRo_ref, ↓z_len_sl, ↓z_len_msl, ↓z_len_str, ↓z_load1, ↓z_fa, ↓z_fa_ref, ↓z_callF, ↓z_andK, ↓z_orK, ↓z_and1, ↓z_and2, ↓z_and3, ↓z_and4, ↓z_and5, ↓z_and6, ↓z_and7, ↓z_and8, ↓z_and9, ↓z_and10, ↓z_and11, ↓z_and12, ↓z_or1, ↓z_or2, ↓z_or3, ↓z_or4, ↓z_or5, ↓z_or6, ↓z_or7, ↓z_or8, ↓z_or9, ↓z_or10, ↓z_or11, ↓z_or12, ↓z_add, ↓z_sub, ↓z_mul, ↓z_eql, ↓z_neq, ↓z_lss, ↓z_leq, ↓z_gtr, ↓z_geq, ↓z_not, ↓z_neg, ↓z_fin_int, ↓z_fin_bool, ↓z_fin_str, ↓z_ent_int, ↓z_ent_bool, ↓z_ent_str, ↓z_stn, ↓z_ldnn, ↓z_ldn0, ↓z_ldn1, ↓z_ldn2, ↓z_ldn3, ↓z_ldn4, ↓z_ldn5, ↓z_ldn6, ↓z_ldn7, ↓z_ldn8, List.drop_zero, List.drop_succ_cons, List.cons_append, List.nil_append, decide_eq_true_eq, decide_eq_false_iff_not, ite_not, ↓reduceIte, pub_agg, pub_int, pub_bool, pub_str, pub_fn, pub_vptr, pub_nilp, Nat.zero_add, List.length_cons, List.length_nil, Nat.reduceAdd, List.all_cons, List.all_nil, isCell_int, isCell_bool, isCell_str, isCell_sl, Bool.and_self, ↓z_loadn, Nat.reduceLeDiff, Nat.le_refl, List.take_succ_cons, List.take_zero, idx_own G X _ _ _ _ ha.1.1 ha.1.2, idx_own G X _ _ _ _ ha.2.1 ha.2.2, ↓z_max2, ↓la, ↓lb]
    refine hk _ ?_
    simp -implicitDefEqProofs only [deg1, eq_false h1, eq_true h3, if_true, if_false]
    exact max_if _ _
  have q3 := eq_false h3
  by_cases h5 : x.op = 5
  · have h3' : x.op = 3 ∨ x.op = 4 ∨ x.op = 5 := by omega
    have q5 := eq_true h5
    simp -implicitDefEqProofs only [h3', ↓reduceIte, decide_eq_true_eq] at ha
    have la := fun k => ld_own G X out j n x.a.toNat (by omega) k _ hg'
    have lb := fun k => ld_own G X out j n x.b.toNat (by omega) k _ hg'
    simp -implicitDefEqProofs only [Nat.zero_add] at la lb
    simp -implicitDefEqProofs only [q3, q5, decide_true, decide_false, if_true, Bool.false_eq_true, ↓z_ret, ↓z_val, ↓z_pick, ↓z_cond, ↓z_boxRo_agg, ↓z_boxRo_int, ↓z_boxRo_bool, ↓z_boxRo_str, ↓z_boxRo_sl, ↓z_boxRo_fn, ↓z_boxRo_vptr, ↓z_boxRo_ref, ↓z_len_sl, ↓z_len_msl, ↓z_len_str, ↓z_load1, ↓z_fa, ↓z_fa_ref, ↓z_callF, ↓z_andK, ↓z_orK, ↓z_and1, ↓z_and2, ↓z_and3, ↓z_and4, ↓z_and5, ↓z_and6, ↓z_and7, ↓z_and8, ↓z_and9, ↓z_and10, ↓z_and11, ↓z_and12, ↓z_or1, ↓z_or2, ↓z_or3, ↓z_or4, ↓z_or5, ↓z_or6, ↓z_or7, ↓z_or8, ↓z_or9, ↓z_or10, ↓z_or11, ↓z_or12, ↓z_add, ↓z_sub, ↓z_mul, ↓z_eql, ↓z_neq, ↓z_lss, ↓z_leq, ↓z_gtr, ↓z_geq, ↓z_not, ↓z_neg, ↓z_fin_int, ↓z_fin_bool, ↓z_fin_str, ↓z_ent_int, ↓z_ent_bool, ↓z_ent_str, ↓z_stn, ↓z_ldnn, ↓z_ldn0, ↓z_ldn1, ↓z_ldn2, ↓z_ldn3, ↓z_ldn4, ↓z_ldn5, ↓z_ldn6, ↓z_ldn7, ↓z_ldn8, List.drop_zero, List.drop_succ_cons, List.cons_append, List.nil_append, decide_eq_true_eq, decide_eq_false_iff_not, ite_not, ↓reduceIte, pub_agg, pub_int, pub_bool, pub_str, pub_fn, pub_vptr, pub_nilp, Nat.zero_add, List.length_cons, List.length_nil, Nat.reduceAdd, List.all_cons, List.all_nil, isCell_int, isCell_bool, isCell_str, isCell_sl, Bool.and_self, ↓z_loadn, Nat.reduceLeDiff, Nat.le_refl, List.take_succ_cons, List.take_zero, idx_own G X _ _ _ _ ha.1.1 ha.1.2, idx_own G X _ _ _ _ ha.2.1 ha.2.2, ↓la, ↓lb]
    refine hk _ ?_
    simp -implicitDefEqProofs only [deg1, h1, q3, q5, if_true, if_false]
  have q5 := eq_false h5
  by_cases h6 : x.op = 6
  · have h3' : ¬ (x.op = 3 ∨ x.op = 4 ∨ x.op = 5) := by omega
    have q6 := eq_true h6
    simp -implicitDefEqProofs only [eq_false h3', q6, ↓reduceIte, decide_eq_true_eq] at ha
    have la := fun k => ld_own G X out j n x.a.toNat (by omega) k _ hg'
    simp -implicitDefEqProofs only [Nat.zero_add] at la
    simp -implicitDefEqProofs only [q3, q5, q6, decide_true, decide_false, if_true, Bool.false_eq_true, ↓z_ret, ↓z_val, ↓z_pick, ↓z_cond, ↓z_boxRo_agg, ↓z_boxRo_int, ↓z_boxRo_bool, ↓z_boxRo_str, ↓z_boxRo_sl, ↓z_boxRo_fn, ↓z_boxRo_vptr, ↓z_boxRo_ref, ↓z_len_sl, ↓z_len_msl, ↓z_len_str, ↓z_load1, ↓z_fa, ↓z_fa_ref, ↓z_callF, ↓z_andK, ↓z_orK, ↓z_and1, ↓z_and2, ↓z_and3, ↓z_and4, ↓z_and5, ↓z_and6, ↓z_and7, ↓z_and8, ↓z_and9, ↓z_and10, ↓z_and11, ↓z_and12, ↓z_or1, ↓z_or2, ↓z_or3, ↓z_or4, ↓z_or5, ↓z_or6, ↓z_or7, ↓z_or8, ↓z_or9, ↓z_or10, ↓z_or11, ↓z_or12, ↓z_add, ↓z_sub, ↓z_mul, ↓z_eql, ↓z_neq, ↓z_lss, ↓z_leq, ↓z_gtr, ↓z_geq, ↓z_not, ↓z_neg, ↓z_fin_int, ↓z_fin_bool, ↓z_fin_str, ↓z_ent_int, ↓z_ent_bool, ↓z_ent_str, ↓z_stn, ↓z_ldnn, ↓z_ldn0, ↓z_ldn1, ↓z_ldn2, ↓z_ldn3, ↓z_ldn4, ↓z_ldn5, ↓z_ldn6, ↓z_ldn7, ↓z_ldn8, List.drop_zero, List.drop_succ_cons, List.cons_append, List.nil_append, decide_eq_true_eq, decide_eq_false_iff_not, ite_not, ↓reduceIte, pub_agg, pub_int, pub_bool, pub_str, pub_fn, pub_vptr, pub_nilp, Nat.zero_add, List.length_cons, List.length_nil, Nat.reduceAdd, List.all_cons, List.all_nil, isCell_int, isCell_bool, isCell_str, isCell_sl, Bool.and_self, ↓z_loadn, Nat.reduceLeDiff, Nat.le_refl, List.take_succ_cons, List.take_zero, idx_own G X _ _ _ _ ha.1 ha.2, ↓z_quo2, ↓la]
    refine hk _ ?_
    simp -implicitDefEqProofs only [deg1, h1, q3, q5, q6, if_true, if_false]
  have q6 := eq_false h6
  simp -implicitDefEqProofs only [q3, q5, q6, decide_true, decide_false, if_true, Bool.false_eq_true, ↓z_ret, ↓z_val, ↓z_pick, ↓z_cond, ↓z_boxRo_agg, ↓z_boxRo_int, ↓z_boxRo_bool, ↓z_boxRo_str, ↓z_boxRo_sl, ↓z_boxRo_fn, ↓z_boxRo_vptr, ↓z_boxRo_ref, ↓z_len_sl, ↓z_len_msl, ↓z_len_str, ↓z_load1, ↓z_fa, ↓z_fa_ref, ↓z_callF, ↓z_andK, ↓z_orK, ↓z_and1, ↓z_and2, ↓z_and3, ↓z_and4, ↓z_and5, ↓z_and6, ↓z_and7, ↓z_and8, ↓z_and9, ↓z_and10, ↓z_and11, ↓z_and12, ↓z_or1, ↓z_or2, ↓z_or3, ↓z_or4, ↓z_or5, ↓z_or6, ↓z_or7, ↓z_or8, ↓z_or9, ↓z_or10, ↓z_or11, ↓z_or12, ↓z_add, ↓z_sub, ↓z_mul, ↓z_eql, ↓z_neq, ↓z_lss, ↓z_leq, ↓z_gtr, ↓z_geq, ↓z_not, ↓z_neg, ↓z_fin_int, ↓z_fin_bool, ↓z_fin_str, ↓z_ent_int, ↓z_ent_bool, ↓z_ent_str, ↓z_stn, ↓z_ldnn, ↓z_ldn0, ↓z_ldn1, ↓z_ldn2, ↓z_ldn3, ↓z_ldn4, ↓z_ldn5, ↓z_ldn6, ↓z_ldn7, ↓z_ldn8, List.drop_zero, List.drop_succ_cons, List.cons_append, List.nil_append, decide_eq_true_eq, decide_eq_false_iff_not, ite_not, ↓reduceIte, pub_agg, pub_int, pub_bool, pub_str, pub_fn, pub_vptr, pub_nilp, Nat.zero_add, List.length_cons, List.length_nil, Nat.reduceAdd, List.all_cons, List.all_nil, isCell_int, isCell_bool, isCell_str, isCell_sl, Bool.and_self, ↓z_loadn, Nat.reduceLeDiff, Nat.le_refl, List.take_succ_cons, List.take_zero]
  refine hk _ ?_
  simp -implicitDefEqProofs only [deg1, h1, q3, q5, q6, if_true, if_false]
theorem f11_l2_ok (p : Prog) (s : St) (h8 : p.ins.length ≤ 8192) (j : Nat) : ∀ (n i : Nat) (out : List Int), i + n = p.ins.length → out.length = i → okArgs (p.ins.drop i) i = true → ∀ (S : St), Child s S → S.own[j]? = some (.cells (full out p.ins.length)) →
    f11_l2 (PP T1 G X) (.msl (.l j) 0 i p.ins.length 1) (.sl 3 (p.ins.map Ins.enc) p.gi) (.int .i64 (p.ins.length : Int)) (.int .i64 (i : Int)) S = .ok (degR (degs (p.ins.drop i) out) fun _ => .exact) s := by
  intro n
  induction n with
  | zero =>
    intro i out hi ho ha S hS hg
    have h : ¬ ((i : Int) < (p.ins.length : Int)) := by omega
    rw [f11_l2_eq _ (PP_ok _ _ _)]
    simp -implicitDefEqProofs only [↓z_ret, ↓z_val, ↓z_pick, ↓z_cond, ↓z_boxRo_agg, ↓z_boxRo_int, ↓z_boxRo_bool, ↓z_boxRo_str, ↓z_boxRo_sl, ↓z_boxRo_fn, ↓z_boxRo_vptr, ↓z_boxRo_ref, ↓z_len_sl, ↓z_len_msl, ↓z_len_str, ↓z_load1, ↓z_fa, ↓z_fa_ref, ↓z_callF, ↓z_andK, ↓z_orK, ↓z_and1, ↓z_and2, ↓z_and3, ↓z_and4, ↓z_and5, ↓z_and6, ↓z_and7, ↓z_and8, ↓z_and9, ↓z_and10, ↓z_and11, ↓z_and12, ↓z_or1, ↓z_or2, ↓z_or3, ↓z_or4, ↓z_or5, ↓z_or6, ↓z_or7, ↓z_or8, ↓z_or9, ↓z_or10, ↓z_or11, ↓z_or12, ↓z_add, ↓z_sub, ↓z_mul, ↓z_eql, ↓z_neq, ↓z_lss, ↓z_leq, ↓z_gtr, ↓z_geq, ↓z_not, ↓z_neg, ↓z_fin_int, ↓z_fin_bool, ↓z_fin_str, ↓z_ent_int, ↓z_ent_bool, ↓z_ent_str, ↓z_stn, ↓z_ldnn, ↓z_ldn0, ↓z_ldn1, ↓z_ldn2, ↓z_ldn3, ↓z_ldn4, ↓z_ldn5, ↓z_ldn6, ↓z_ldn7, ↓z_ldn8, List.drop_zero, List.drop_succ_cons, List.cons_append, List.nil_append, decide_eq_true_eq, decide_eq_false_iff_not, ite_not, ↓reduceIte, pub_agg, pub_int, pub_bool, pub_str, pub_fn, pub_vptr, pub_nilp, Nat.zero_add, List.length_cons, List.length_nil, Nat.reduceAdd, List.all_cons, List.all_nil, isCell_int, isCell_bool, isCell_str, isCell_sl, Bool.and_self, ↓z_loadn, Nat.reduceLeDiff, Nat.le_refl, List.take_succ_cons, List.take_zero, eq_false h, decide_false, Bool.false_eq_true, f11_j8_eq _ (PP_ok _ _ _)]
    have e : i = p.ins.length := by omega
    subst ho
    rw [← e] at hg ⊢
    rw [full_full] at hg
    rw [List.drop_of_length_le (by omega), z_finC2 hS _ _ _ _ (freeze_msl hg (by simp) (refless_ints out) (by simp [AV.cells])) rfl]
    rfl
  | succ n ih =>
    intro i out hi ho ha S hS hg
    have h : (i : Int) < (p.ins.length : Int) := by omega
    have hlt : i < p.ins.length := by omega
    obtain ⟨x, hx⟩ : ∃ x, p.ins[i]? = some x := ⟨_, List.getElem?_eq_getElem hlt⟩
    have ea : (p.ins.map Ins.enc)[i]? = some x.enc := by simp [hx]
    have hx' := (List.getElem?_eq_some_iff.1 hx).2
    rw [List.drop_eq_getElem_cons hlt, hx'] at ha ⊢
    simp -implicitDefEqProofs only [okArgs, Bool.and_eq_true] at ha
    have ha1 := ha.1
    have step := fun d (hd : d = deg1 out x) => f11_step G X p (p.ins.drop (i + 1)) s (.sl 3 (p.ins.map Ins.enc) p.gi) (.int .i64 (p.ins.length : Int)) i j p.ins.length x out ho hlt h8 (S.new (.cells [I x.op, I x.a, I x.b])) (hS.new _) (own_new hg _)
      (fun d S' hS' hg' => ih (i + 1) (out ++ [d]) (by omega) (by simp [ho]) ha.2 S' hS' hg') d hd
    have j7 := f11_j7_ok G X (.sl 3 (p.ins.map Ins.enc) p.gi) (.int .i64 (p.ins.length : Int)) (.ok (degR (degs (x :: p.ins.drop (i + 1)) out) fun _ => .exact) s) x out S j p.ins.length hg (by rw [ho]; exact ha1)
    rw [ho] at j7
    rw [f11_l2_eq _ (PP_ok _ _ _)]
    simp -implicitDefEqProofs only [↓z_ret, ↓z_val, ↓z_pick, ↓z_cond, ↓z_boxRo_agg, ↓z_boxRo_int, ↓z_boxRo_bool, ↓z_boxRo_str, ↓z_boxRo_sl, ↓z_boxRo_fn, ↓z_boxRo_vptr, ↓z_boxRo_ref, ↓z_len_sl, ↓z_len_msl, ↓z_len_str, ↓z_load1, ↓z_fa, ↓z_fa_ref, ↓z_callF, ↓z_andK, ↓z_orK, ↓z_and1, ↓z_and2, ↓z_and3, ↓z_and4, ↓z_and5, ↓z_and6, ↓z_and7, ↓z_and8, ↓z_and9, ↓z_and10, ↓z_and11, ↓z_and12, ↓z_or1, ↓z_or2, ↓z_or3, ↓z_or4, ↓z_or5, ↓z_or6, ↓z_or7, ↓z_or8, ↓z_or9, ↓z_or10, ↓z_or11, ↓z_or12, ↓z_add, ↓z_sub, ↓z_mul, ↓z_eql, ↓z_neq, ↓z_lss, ↓z_leq, ↓z_gtr, ↓z_geq, ↓z_not, ↓z_neg, ↓z_fin_int, ↓z_fin_bool, ↓z_fin_str, ↓z_ent_int, ↓z_ent_bool, ↓z_ent_str, ↓z_stn, ↓z_ldnn, ↓z_ldn0, ↓z_ldn1, ↓z_ldn2, ↓z_ldn3, ↓z_ldn4, ↓z_ldn5, ↓z_ldn6, ↓z_ldn7, ↓z_ldn8, List.drop_zero, List.drop_succ_cons, List.cons_append, List.nil_append, decide_eq_true_eq, decide_eq_false_iff_not, ite_not, ↓reduceIte, pub_agg, pub_int, pub_bool, pub_str, pub_fn, pub_vptr, pub_nilp, Nat.zero_add, List.length_cons, List.length_nil, Nat.reduceAdd, List.all_cons, List.all_nil, isCell_int, isCell_bool, isCell_str, isCell_sl, Bool.and_self, ↓z_loadn, Nat.reduceLeDiff, Nat.le_refl, List.take_succ_cons, List.take_zero, List.length_map, eq_true h, decide_true, if_true, f11_j3_eq _ (PP_ok _ _ _), z_idx _ _ _ _ _ _ ea, Ins.enc, Ins.cs, AV.cells]
    by_cases h1 : x.op = 1
    · simp -implicitDefEqProofs only [eq_true h1, ↓reduceIte]
      exact step 1 (by simp [deg1, h1])
    simp -implicitDefEqProofs only [eq_false h1, ↓reduceIte]
    have := j7 h1 step
    by_cases h3 : x.op = 3
    · simp -implicitDefEqProofs only [eq_true h3, ↓reduceIte, true_or, decide_true] at this ⊢
      exact this
    · simp -implicitDefEqProofs only [eq_false h3, ↓reduceIte, false_or] at this ⊢
      exact this
theorem f11_ok (p : Prog) (s : St) (hv : p.vals.length ≤ 9223372036854775807) (hvv : ∀ v, v ∈ p.vals → v.1.length ≤ 9223372036854775807) : callω T1 G X 11 [p.enc] s = .ok (degA p fun _ => .exact) s := by
  rw [f11_call, f11_eq]
  simp -implicitDefEqProofs only [Prog.enc, ↓z_ret, ↓z_val, ↓z_pick, ↓z_cond, ↓z_boxRo_agg, ↓z_boxRo_int, ↓z_boxRo_bool, ↓z_boxRo_str, ↓z_boxRo_sl, ↓z_boxRo_fn, ↓z_boxRo_vptr, ↓z_boxRo_ref, ↓z_len_sl, ↓z_len_msl, ↓z_len_str, ↓z_load1, ↓z_fa, ↓z_fa_ref, ↓z_callF, ↓z_andK, ↓z_orK, ↓z_and1, ↓z_and2, ↓z_and3, ↓z_and4, ↓z_and5, ↓z_and6, ↓z_and7, ↓z_and8, ↓z_and9, ↓z_and10, ↓z_and11, ↓z_and12, ↓z_or1, ↓z_or2, ↓z_or3, ↓z_or4, ↓z_or5, ↓z_or6, ↓z_or7, ↓z_or8, ↓z_or9, ↓z_or10, ↓z_or11, ↓z_or12, ↓z_add, ↓z_sub, ↓z_mul, ↓z_eql, ↓z_neq, ↓z_lss, ↓z_leq, ↓z_gtr, ↓z_geq, ↓z_not, ↓z_neg, ↓z_fin_int, ↓z_fin_bool, ↓z_fin_str, ↓z_ent_int, ↓z_ent_bool, ↓z_ent_str, ↓z_stn, ↓z_ldnn, ↓z_ldn0, ↓z_ldn1, ↓z_ldn2, ↓z_ldn3, ↓z_ldn4, ↓z_ldn5, ↓z_ldn6, ↓z_ldn7, ↓z_ldn8, List.drop_zero, List.drop_succ_cons, List.cons_append, List.nil_append, decide_eq_true_eq, decide_eq_false_iff_not, ite_not, ↓reduceIte, pub_agg, pub_int, pub_bool, pub_str, pub_fn, pub_vptr, pub_nilp, Nat.zero_add, List.length_cons, List.length_nil, Nat.reduceAdd, List.all_cons, List.all_nil, isCell_int, isCell_bool, isCell_str, isCell_sl, Bool.and_self, ↓z_loadn, Nat.reduceLeDiff, Nat.le_refl, List.take_succ_cons, List.take_zero, Prog.cs]
  have h7 := f7_ok G X p s.enter hv hvv
  simp -implicitDefEqProofs only [Prog.enc, Prog.cs] at h7
  simp -implicitDefEqProofs only [z_call0 h7, ↓z_ret, ↓z_val, ↓z_pick, ↓z_cond, ↓z_boxRo_agg, ↓z_boxRo_int, ↓z_boxRo_bool, ↓z_boxRo_str, ↓z_boxRo_sl, ↓z_boxRo_fn, ↓z_boxRo_vptr, ↓z_boxRo_ref, ↓z_len_sl, ↓z_len_msl, ↓z_len_str, ↓z_load1, ↓z_fa, ↓z_fa_ref, ↓z_callF, ↓z_andK, ↓z_orK, ↓z_and1, ↓z_and2, ↓z_and3, ↓z_and4, ↓z_and5, ↓z_and6, ↓z_and7, ↓z_and8, ↓z_and9, ↓z_and10, ↓z_and11, ↓z_and12, ↓z_or1, ↓z_or2, ↓z_or3, ↓z_or4, ↓z_or5, ↓z_or6, ↓z_or7, ↓z_or8, ↓z_or9, ↓z_or10, ↓z_or11, ↓z_or12, ↓z_add, ↓z_sub, ↓z_mul, ↓z_eql, ↓z_neq, ↓z_lss, ↓z_leq, ↓z_gtr, ↓z_geq, ↓z_not, ↓z_neg, ↓z_fin_int, ↓z_fin_bool, ↓z_fin_str, ↓z_ent_int, ↓z_ent_bool, ↓z_ent_str, ↓z_stn, ↓z_ldnn, ↓z_ldn0, ↓z_ldn1, ↓z_ldn2, ↓z_ldn3, ↓z_ldn4, ↓z_ldn5, ↓z_ldn6, ↓z_ldn7, ↓z_ldn8, List.drop_zero, List.drop_succ_cons, List.cons_append, List.nil_append, decide_eq_true_eq, decide_eq_false_iff_not, ite_not, ↓reduceIte, pub_agg, pub_int, pub_bool, pub_str, pub_fn, pub_vptr, pub_nilp, Nat.zero_add, List.length_cons, List.length_nil, Nat.reduceAdd, List.all_cons, List.all_nil, isCell_int, isCell_bool, isCell_str, isCell_sl, Bool.and_self, ↓z_loadn, Nat.reduceLeDiff, Nat.le_refl, List.take_succ_cons, List.take_zero]
  by_cases h : p.check = 0
  · have h8 := (check0 h).1
    have hl := f11_l2_ok G X p s h8 0 p.ins.length 0 [] (by omega) rfl (check0 h).2.1 (s.enter.new (.cells (List.replicate p.ins.length (I 0)))) ((Child.enter s).new _) (by simp [full, St.new, St.enter])
    simp -implicitDefEqProofs only [Int.natCast_zero, List.drop_zero] at hl
    have hm := fun k => z_make (T := T1) (G := G) (X := X) (s := s.enter) (k := k) (I 0) 8 0 p.ins.length (by omega) (by omega)
    simp -implicitDefEqProofs only [Int.natCast_zero] at hm
    simp -implicitDefEqProofs only [degA, eq_true h, if_true, f11_j1_eq _ (PP_ok _ _ _), ↓z_ret, ↓z_val, ↓z_pick, ↓z_cond, ↓z_boxRo_agg, ↓z_boxRo_int, ↓z_boxRo_bool, ↓z_boxRo_str, ↓z_boxRo_sl, ↓z_boxRo_fn, ↓z_boxRo_vptr, ↓z_boxRo_ref, ↓z_len_sl, ↓z_len_msl, ↓z_len_str, ↓z_load1, ↓z_fa, ↓z_fa_ref, ↓z_callF, ↓z_andK, ↓z_orK, ↓z_and1, ↓z_and2, ↓z_and3, ↓z_and4, ↓z_and5, ↓z_and6, ↓z_and7, ↓z_and8, ↓z_and9, ↓z_and10, ↓z_and11, ↓z_and12, ↓z_or1, ↓z_or2, ↓z_or3, ↓z_or4, ↓z_or5, ↓z_or6, ↓z_or7, ↓z_or8, ↓z_or9, ↓z_or10, ↓z_or11, ↓z_or12, ↓z_add, ↓z_sub, ↓z_mul, ↓z_eql, ↓z_neq, ↓z_lss, ↓z_leq, ↓z_gtr, ↓z_geq, ↓z_not, ↓z_neg, ↓z_fin_int, ↓z_fin_bool, ↓z_fin_str, ↓z_ent_int, ↓z_ent_bool, ↓z_ent_str, ↓z_stn, ↓z_ldnn, ↓z_ldn0, ↓z_ldn1, ↓z_ldn2, ↓z_ldn3, ↓z_ldn4, ↓z_ldn5, ↓z_ldn6, ↓z_ldn7, ↓z_ldn8, List.drop_zero, List.drop_succ_cons, List.cons_append, List.nil_append, decide_eq_true_eq, decide_eq_false_iff_not, ite_not, ↓reduceIte, pub_agg, pub_int, pub_bool, pub_str, pub_fn, pub_vptr, pub_nilp, Nat.zero_add, List.length_cons, List.length_nil, Nat.reduceAdd, List.all_cons, List.all_nil, isCell_int, isCell_bool, isCell_str, isCell_sl, Bool.and_self, ↓z_loadn, Nat.reduceLeDiff, Nat.le_refl, List.take_succ_cons, List.take_zero, List.length_map, hm]
    exact hl
  · simp -implicitDefEqProofs only [degA, eq_false h, if_false]
    exact z_finC2 (.enter s) _ _ _ _ rfl rfl
end Go.AbY
end
section
/- Residues: what a rule's ring computes, and that it commutes with the reduction modulo a divisor. -/
namespace Go.AbY
open Go.Ab
theorem w64_in (a : Int) (h1 : -9223372036854775808 ≤ a) (h2 : a ≤ 9223372036854775807) : W64 a = a := wrap_in a h1 h2
/-- Rule.Reduce -/
def redI (m n : Int) : Int := if m ≤ 0 then n else if n.tmod m < 0 then W64 (n.tmod m + m) else n.tmod m
def addI (m a b : Int) : Int := redI m (W64 (a + b))
def subI (m a b : Int) : Int := redI m (W64 (a - b))
def mulI (m a b : Int) : Int := redI m (W64 (a * b))
def rootI (m b i a : Int) : Int := addI m (mulI m (redI m b) a) (redI m (W64 (i + 1)))
theorem redI_pos {m : Int} (h : 0 < m) (h2 : m ≤ 4611686018427387904) (n : Int) : redI m n = n % m := by
  unfold redI
  rw [if_neg (by omega)]
  have h3 := Int.tmod_lt_of_pos n h
  have h4 := Int.mul_tdiv_add_tmod n m
  have h5 : -m < n.tmod m := by
    by_cases hn : 0 ≤ n
    · have := Int.tmod_nonneg m hn
      omega
    · have h6 := Int.tmod_lt_of_pos (-n) h
      rw [Int.neg_tmod] at h6
      omega
  split
  · rw [w64_in _ (by omega) (by omega)]
    have e : n = (n.tmod m + m) + m * (n.tdiv m - 1) := by rw [Int.mul_sub]; omega
    have := Int.add_mul_emod_self_left (n.tmod m + m) m (n.tdiv m - 1)
    rw [← e] at this
    rw [this, Int.emod_eq_of_lt (by omega) (by omega)]
  · have e : n = n.tmod m + m * n.tdiv m := by omega
    have := Int.add_mul_emod_self_left (n.tmod m) m (n.tdiv m)
    rw [← e] at this
    rw [this, Int.emod_eq_of_lt (by omega) (by omega)]
/-- The words of a ring, and what a program comes to in it. -/
structure Ops where
  c : Int → Int
  add : Int → Int → Int
  sub : Int → Int → Int
  mul : Int → Int → Int
  root : Int → Int → Int
def opsM (m b : Int) : Ops := ⟨redI m, addI m, subI m, mulI m, rootI m b⟩
def valR (R : Ops) (inp out : List Int) (nr : Nat) (x : Ins) : Int :=
  if x.op = 1 then inp.getD x.a.toNat 0
  else if x.op = 2 then R.c x.a
  else if x.op = 3 then R.add (out.getD x.a.toNat 0) (out.getD x.b.toNat 0)
  else if x.op = 4 then R.sub (out.getD x.a.toNat 0) (out.getD x.b.toNat 0)
  else if x.op = 5 then R.mul (out.getD x.a.toNat 0) (out.getD x.b.toNat 0)
  else if x.op = 6 then R.root nr (out.getD x.a.toNat 0)
  else 0
def nextR (x : Ins) (nr : Nat) : Nat := if x.op = 6 then nr + 1 else nr
def runR (R : Ops) (inp : List Int) : List Ins → Nat → List Int → List Int
  | [], _, out => out
  | x :: xs, nr, out => runR R inp xs (nextR x nr) (out ++ [valR R inp out nr x])
theorem runR_len (R : Ops) (inp : List Int) : ∀ (xs : List Ins) (nr : Nat) (out : List Int), (runR R inp xs nr out).length = out.length + xs.length
  | [], _, _ => by simp [runR]
  | x :: xs, nr, out => by
    simp -implicitDefEqProofs only [runR]
    rw [runR_len R inp xs]
    simp; omega
/-- Every instruction may stand where it stands. -/
def okAll (inputs : Int) : List Ins → Nat → Bool
  | [], _ => true
  | x :: xs, i => okIns x i inputs && okAll inputs xs (i + 1)
theorem okAll_scan (roots : List Int) (inputs : Int) : ∀ (xs : List Ins) (i nx m : Nat), scan roots inputs xs i nx = some m → okAll inputs xs i = true
  | [], _, _, _, _ => rfl
  | x :: xs, i, nx, m, h => by
    simp -implicitDefEqProofs only [scan] at h
    split at h
    · rename_i hok
      simp -implicitDefEqProofs only [okAll, hok, Bool.true_and]
      split at h
      · split at h
        · exact okAll_scan roots inputs xs _ _ m h
        · cases h
      · exact okAll_scan roots inputs xs _ _ m h
    · cases h
theorem okIns_op {x : Ins} {i inputs : Int} (h : okIns x i inputs = true) : x.op = 1 ∨ x.op = 2 ∨ x.op = 3 ∨ x.op = 4 ∨ x.op = 5 ∨ x.op = 6 := by
  unfold okIns at h
  split at h
  · omega
  split at h
  · omega
  split at h
  · omega
  split at h
  · omega
  · cases h

set_option linter.unusedSectionVars false
/-! Reduction modulo a divisor. -/
theorem emod_dvd {a M n : Int} (h : a ∣ M) : n % M % a = n % a := Int.emod_emod_of_dvd n h
structure Red (a M v w : Int) : Prop where
  lo : 0 ≤ v
  hi : v < M
  eq : v % a = w
section
variable {a M : Int} (ha : 0 < a) (hM : 0 < M) (haM : a ∣ M) (hle : a ≤ M) (hbig : M ≤ 1000000000)
include ha hM haM hle hbig
theorem Red.lo2 {v w : Int} (h : Red a M v w) : 0 ≤ w ∧ w < a := by
  obtain ⟨_, _, rfl⟩ := h
  exact ⟨Int.emod_nonneg _ (by omega), Int.emod_lt_of_pos _ ha⟩
theorem red_red (n : Int) : Red a M (redI M n) (redI a n) := by
  rw [redI_pos hM (by omega), redI_pos ha (by omega)]
  exact ⟨Int.emod_nonneg _ (by omega), Int.emod_lt_of_pos _ hM, emod_dvd haM⟩
theorem red_of {x y : Int} (hx1 : -9223372036854775808 ≤ x) (hx2 : x ≤ 9223372036854775807) (hy1 : -9223372036854775808 ≤ y) (hy2 : y ≤ 9223372036854775807) (e : x % a = y % a) : Red a M (redI M (W64 x)) (redI a (W64 y)) := by
  rw [w64_in _ hx1 hx2, w64_in _ hy1 hy2, redI_pos hM (by omega), redI_pos ha (by omega)]
  exact ⟨Int.emod_nonneg _ (by omega), Int.emod_lt_of_pos _ hM, by rw [emod_dvd haM, e]⟩
theorem red_add {v w v' w' : Int} (h : Red a M v w) (h' : Red a M v' w') : Red a M (addI M v v') (addI a w w') := by
  have l := h.lo2 ha hM haM hle hbig
  have l' := h'.lo2 ha hM haM hle hbig
  have := h.lo; have := h.hi; have := h'.lo; have := h'.hi
  exact red_of ha hM haM hle hbig (by omega) (by omega) (by omega) (by omega) (by rw [← h.eq, ← h'.eq, ← Int.add_emod])
theorem red_sub {v w v' w' : Int} (h : Red a M v w) (h' : Red a M v' w') : Red a M (subI M v v') (subI a w w') := by
  have l := h.lo2 ha hM haM hle hbig
  have l' := h'.lo2 ha hM haM hle hbig
  have := h.lo; have := h.hi; have := h'.lo; have := h'.hi
  exact red_of ha hM haM hle hbig (by omega) (by omega) (by omega) (by omega) (by rw [← h.eq, ← h'.eq, ← Int.sub_emod])
theorem red_mul {v w v' w' : Int} (h : Red a M v w) (h' : Red a M v' w') : Red a M (mulI M v v') (mulI a w w') := by
  have l := h.lo2 ha hM haM hle hbig
  have l' := h'.lo2 ha hM haM hle hbig
  have b1 := h.lo; have b2 := h.hi; have b3 := h'.lo; have b4 := h'.hi
  have p1 : 0 ≤ v * v' := Int.mul_nonneg b1 b3
  have p2 : v * v' ≤ 1000000000 * 1000000000 := Int.mul_le_mul (by omega) (by omega) b3 (by omega)
  have p3 : 0 ≤ w * w' := Int.mul_nonneg l.1 l'.1
  have p4 : w * w' ≤ 1000000000 * 1000000000 := Int.mul_le_mul (by omega) (by omega) l'.1 (by omega)
  exact red_of ha hM haM hle hbig (by omega) (by omega) (by omega) (by omega) (by rw [← h.eq, ← h'.eq, ← Int.mul_emod])
theorem red_root {v w : Int} (b : Int) (i : Int) (h : Red a M v w) : Red a M (rootI M b i v) (rootI a b i w) :=
  red_add ha hM haM hle hbig (red_mul ha hM haM hle hbig (red_red ha hM haM hle hbig b) h) (red_red ha hM haM hle hbig _)
def RedL (a M : Int) (v w : List Int) : Prop := v.length = w.length ∧ ∀ i, i < v.length → Red a M (v.getD i 0) (w.getD i 0)
theorem redL_runR (b : Int) (x y : List Int) (hxy : RedL a M x y) : ∀ (xs : List Ins) (i nr : Nat) (v w : List Int), okAll x.length xs i = true → v.length = i → RedL a M v w →
    RedL a M (runR (opsM M b) x xs nr v) (runR (opsM a b) y xs nr w)
  | [], _, _, _, _, _, _, h => h
  | t :: xs, i, nr, v, w, hok, hi, h => by
    simp -implicitDefEqProofs only [okAll, Bool.and_eq_true] at hok
    simp -implicitDefEqProofs only [runR]
    refine redL_runR b x y hxy xs (i + 1) _ _ _ hok.2 (by simp [hi]) ⟨by simp [h.1], fun k hk => ?_⟩
    simp -implicitDefEqProofs only [List.length_append, List.length_cons, List.length_nil] at hk
    by_cases hkv : k < v.length
    · have := h.2 k hkv
      have hkw : k < w.length := h.1 ▸ hkv
      have e1 : (v ++ [valR (opsM M b) x v nr t]).getD k 0 = v.getD k 0 := by simp -implicitDefEqProofs only [List.getD]; rw [List.getElem?_append_left hkv]
      have e2 : (w ++ [valR (opsM a b) y w nr t]).getD k 0 = w.getD k 0 := by simp -implicitDefEqProofs only [List.getD]; rw [List.getElem?_append_left hkw]
      rw [e1, e2]
      exact this
    · have hk' : k = v.length := by omega
      subst hk'
      have hw : v.length = w.length := h.1
      have e1 : (v ++ [valR (opsM M b) x v nr t]).getD v.length 0 = valR (opsM M b) x v nr t := by simp [List.getD]
      have e2 : (w ++ [valR (opsM a b) y w nr t]).getD v.length 0 = valR (opsM a b) y w nr t := by simp [List.getD, hw]
      rw [e1, e2]
      have hx := hok.1
      have hvr := fun (n : Int) (h0 : 0 ≤ n) (h1 : n < (i : Int)) => h.2 n.toNat (by omega)
      unfold okIns at hx
      unfold valR
      split
      · rename_i h1
        simp -implicitDefEqProofs only [h1, if_true, decide_eq_true_eq] at hx
        exact hxy.2 _ (by omega)
      split
      · exact red_red ha hM haM hle hbig _
      rename_i h1 h2
      split
      · rename_i h3
        simp -implicitDefEqProofs only [h3] at hx
        simp at hx
        exact red_add ha hM haM hle hbig (hvr _ hx.1.1 hx.1.2) (hvr _ hx.2.1 hx.2.2)
      split
      · rename_i h3
        simp -implicitDefEqProofs only [h3] at hx
        simp at hx
        exact red_sub ha hM haM hle hbig (hvr _ hx.1.1 hx.1.2) (hvr _ hx.2.1 hx.2.2)
      split
      · rename_i h3
        simp -implicitDefEqProofs only [h3] at hx
        simp at hx
        exact red_mul ha hM haM hle hbig (hvr _ hx.1.1 hx.1.2) (hvr _ hx.2.1 hx.2.2)
      split
      · rename_i h3
        simp -implicitDefEqProofs only [h3] at hx
        simp at hx
        exact red_root ha hM haM hle hbig _ _ (hvr _ hx.1.1 hx.1.2)
      · rename_i h3 h4 h5 h6
        have := okIns_op hok.1
        omega
end
end Go.AbY
end
section
namespace Go.AbY
open Go.Ab
variable (G : Nat → AV) (X : Nat → List AV → St → Res)
set_option linter.unusedSimpArgs false
set_option linter.unusedVariables false
theorem z_rem' {s : St} {k : K1} (kk : IntKind) (a b : Int) (h : b ≠ 0) : (PP T1 G X).val s k (binV .rem (.int kk a) (.int kk b)) = k (.int kk (a.tmod b)) s := by
  rw [show binV .rem (.int kk a) (.int kk b) = some (.int kk (a.tmod b)) from by simp [binV, intBin, h]]
  rfl
theorem f8_ok (m b n : Int) (w : AV) (s : St) (hw : w.isVal = true) : callω T1 G X 8 [.agg [I m, I b, w], I n] s = .ok (I (redI m n)) s := by
  rw [f8_call, f8_eq]
  unfold redI
  by_cases h : m ≤ 0
  · simp -implicitDefEqProofs only [↓z_ret, ↓z_val, ↓z_pick, ↓z_cond, ↓z_boxRo_agg, ↓z_boxRo_int, ↓z_boxRo_bool, ↓z_boxRo_str, ↓z_boxRo_sl, ↓z_boxRo_fn, ↓z_boxRo_vptr, ↓z_boxRo_ref, ↓z_len_sl, ↓z_len_msl, ↓z_len_str, ↓z_load1, ↓z_fa, ↓z_fa_ref, ↓z_callF, ↓z_andK, ↓z_orK, ↓z_and1, ↓z_and2, ↓z_and3, ↓z_and4, ↓z_and5, ↓z_and6, ↓z_and7, ↓z_and8, ↓z_and9, ↓z_and10, ↓z_and11, ↓z_and12, ↓z_or1, ↓z_or2, ↓z_or3, ↓z_or4, ↓z_or5, ↓z_or6, ↓z_or7, ↓z_or8, ↓z_or9, ↓z_or10, ↓z_or11, ↓z_or12, ↓z_add, ↓z_sub, ↓z_mul, ↓z_eql, ↓z_neq, ↓z_lss, ↓z_leq, ↓z_gtr, ↓z_geq, ↓z_not, ↓z_neg, ↓z_fin_int, ↓z_fin_bool, ↓z_fin_str, ↓z_ent_int, ↓z_ent_bool, ↓z_ent_str, ↓z_stn, ↓z_ldnn, ↓z_ldn0, ↓z_ldn1, ↓z_ldn2, ↓z_ldn3, ↓z_ldn4, ↓z_ldn5, ↓z_ldn6, ↓z_ldn7, ↓z_ldn8, List.drop_zero, List.drop_succ_cons, List.cons_append, List.nil_append, decide_eq_true_eq, decide_eq_false_iff_not, ite_not, ↓reduceIte, pub_agg, pub_int, pub_bool, pub_str, pub_fn, pub_vptr, pub_nilp, Nat.zero_add, List.length_cons, List.length_nil, Nat.reduceAdd, List.all_cons, List.all_nil, isCell_int, isCell_bool, isCell_str, isCell_sl, Bool.and_self, ↓z_loadn, Nat.reduceLeDiff, Nat.le_refl, List.take_succ_cons, List.take_zero, eq_true h, decide_true]
  · have hm : m ≠ 0 := by omega
    simp -implicitDefEqProofs only [↓z_ret, ↓z_val, ↓z_pick, ↓z_cond, ↓z_boxRo_agg, ↓z_boxRo_int, ↓z_boxRo_bool, ↓z_boxRo_str, ↓z_boxRo_sl, ↓z_boxRo_fn, ↓z_boxRo_vptr, ↓z_boxRo_ref, ↓z_len_sl, ↓z_len_msl, ↓z_len_str, ↓z_load1, ↓z_fa, ↓z_fa_ref, ↓z_callF, ↓z_andK, ↓z_orK, ↓z_and1, ↓z_and2, ↓z_and3, ↓z_and4, ↓z_and5, ↓z_and6, ↓z_and7, ↓z_and8, ↓z_and9, ↓z_and10, ↓z_and11, ↓z_and12, ↓z_or1, ↓z_or2, ↓z_or3, ↓z_or4, ↓z_or5, ↓z_or6, ↓z_or7, ↓z_or8, ↓z_or9, ↓z_or10, ↓z_or11, ↓z_or12, ↓z_add, ↓z_sub, ↓z_mul, ↓z_eql, ↓z_neq, ↓z_lss, ↓z_leq, ↓z_gtr, ↓z_geq, ↓z_not, ↓z_neg, ↓z_fin_int, ↓z_fin_bool, ↓z_fin_str, ↓z_ent_int, ↓z_ent_bool, ↓z_ent_str, ↓z_stn, ↓z_ldnn, ↓z_ldn0, ↓z_ldn1, ↓z_ldn2, ↓z_ldn3, ↓z_ldn4, ↓z_ldn5, ↓z_ldn6, ↓z_ldn7, ↓z_ldn8, List.drop_zero, List.drop_succ_cons, List.cons_append, List.nil_append, decide_eq_true_eq, decide_eq_false_iff_not, ite_not, ↓reduceIte, pub_agg, pub_int, pub_bool, pub_str, pub_fn, pub_vptr, pub_nilp, Nat.zero_add, List.length_cons, List.length_nil, Nat.reduceAdd, List.all_cons, List.all_nil, isCell_int, isCell_bool, isCell_str, isCell_sl, Bool.and_self, ↓z_loadn, Nat.reduceLeDiff, Nat.le_refl, List.take_succ_cons, List.take_zero, eq_false h, decide_false, Bool.false_eq_true, f8_j1_eq _ (PP_ok _ _ _), ↓z_rem' G X _ _ _ hm]
    by_cases h2 : n.tmod m < 0
    · simp -implicitDefEqProofs only [eq_true h2, ↓reduceIte, f8_j2_eq _ (PP_ok _ _ _), ↓z_ret, ↓z_val, ↓z_pick, ↓z_cond, ↓z_boxRo_agg, ↓z_boxRo_int, ↓z_boxRo_bool, ↓z_boxRo_str, ↓z_boxRo_sl, ↓z_boxRo_fn, ↓z_boxRo_vptr, ↓z_boxRo_ref, ↓z_len_sl, ↓z_len_msl, ↓z_len_str, ↓z_load1, ↓z_fa, ↓z_fa_ref, ↓z_callF, ↓z_andK, ↓z_orK, ↓z_and1, ↓z_and2, ↓z_and3, ↓z_and4, ↓z_and5, ↓z_and6, ↓z_and7, ↓z_and8, ↓z_and9, ↓z_and10, ↓z_and11, ↓z_and12, ↓z_or1, ↓z_or2, ↓z_or3, ↓z_or4, ↓z_or5, ↓z_or6, ↓z_or7, ↓z_or8, ↓z_or9, ↓z_or10, ↓z_or11, ↓z_or12, ↓z_add, ↓z_sub, ↓z_mul, ↓z_eql, ↓z_neq, ↓z_lss, ↓z_leq, ↓z_gtr, ↓z_geq, ↓z_not, ↓z_neg, ↓z_fin_int, ↓z_fin_bool, ↓z_fin_str, ↓z_ent_int, ↓z_ent_bool, ↓z_ent_str, ↓z_stn, ↓z_ldnn, ↓z_ldn0, ↓z_ldn1, ↓z_ldn2, ↓z_ldn3, ↓z_ldn4, ↓z_ldn5, ↓z_ldn6, ↓z_ldn7, ↓z_ldn8, List.drop_zero, List.drop_succ_cons, List.cons_append, List.nil_append, decide_eq_true_eq, decide_eq_false_iff_not, ite_not, ↓reduceIte, pub_agg, pub_int, pub_bool, pub_str, pub_fn, pub_vptr, pub_nilp, Nat.zero_add, List.length_cons, List.length_nil, Nat.reduceAdd, List.all_cons, List.all_nil, isCell_int, isCell_bool, isCell_str, isCell_sl, Bool.and_self, ↓z_loadn, Nat.reduceLeDiff, Nat.le_refl, List.take_succ_cons, List.take_zero]
    · simp -implicitDefEqProofs only [eq_false h2, ↓reduceIte, f8_j2_eq _ (PP_ok _ _ _), ↓z_ret, ↓z_val, ↓z_pick, ↓z_cond, ↓z_boxRo_agg, ↓z_boxRo_int, ↓z_boxRo_bool, ↓z_boxRo_str, ↓z_boxRo_sl, ↓z_boxRo_fn, ↓z_boxRo_vptr, ↓z_boxRo_ref, ↓z_len_sl, ↓z_len_msl, ↓z_len_str, ↓z_load1, ↓z_fa, ↓z_fa_ref, ↓z_callF, ↓z_andK, ↓z_orK, ↓z_and1, ↓z_and2, ↓z_and3, ↓z_and4, ↓z_and5, ↓z_and6, ↓z_and7, ↓z_and8, ↓z_and9, ↓z_and10, ↓z_and11, ↓z_and12, ↓z_or1, ↓z_or2, ↓z_or3, ↓z_or4, ↓z_or5, ↓z_or6, ↓z_or7, ↓z_or8, ↓z_or9, ↓z_or10, ↓z_or11, ↓z_or12, ↓z_add, ↓z_sub, ↓z_mul, ↓z_eql, ↓z_neq, ↓z_lss, ↓z_leq, ↓z_gtr, ↓z_geq, ↓z_not, ↓z_neg, ↓z_fin_int, ↓z_fin_bool, ↓z_fin_str, ↓z_ent_int, ↓z_ent_bool, ↓z_ent_str, ↓z_stn, ↓z_ldnn, ↓z_ldn0, ↓z_ldn1, ↓z_ldn2, ↓z_ldn3, ↓z_ldn4, ↓z_ldn5, ↓z_ldn6, ↓z_ldn7, ↓z_ldn8, List.drop_zero, List.drop_succ_cons, List.cons_append, List.nil_append, decide_eq_true_eq, decide_eq_false_iff_not, ite_not, ↓reduceIte, pub_agg, pub_int, pub_bool, pub_str, pub_fn, pub_vptr, pub_nilp, Nat.zero_add, List.length_cons, List.length_nil, Nat.reduceAdd, List.all_cons, List.all_nil, isCell_int, isCell_bool, isCell_str, isCell_sl, Bool.and_self, ↓z_loadn, Nat.reduceLeDiff, Nat.le_refl, List.take_succ_cons, List.take_zero]

abbrev rcs (m b : Int) : List AV := [I m, I b, .sl 1 [] .nil]
theorem rl_val : (AV.sl 1 [] .nil).isVal = true := rfl
theorem f8_ok' (m b n : Int) (s : St) : callω T1 G X 8 [.agg (rcs m b), I n] s = .ok (I (redI m n)) s := f8_ok G X m b n _ s rfl
theorem f21_ok (m b x y : Int) (s : St) : callω T1 G X 21 [.agg (rcs m b), I x, I y] s = .ok (I (addI m x y)) s := by
  rw [f21_call, f21_eq]
  simp -implicitDefEqProofs only [rcs, ↓z_ret, ↓z_val, ↓z_pick, ↓z_cond, ↓z_boxRo_agg, ↓z_boxRo_int, ↓z_boxRo_bool, ↓z_boxRo_str, ↓z_boxRo_sl, ↓z_boxRo_fn, ↓z_boxRo_vptr, ↓z_boxRo_ref, ↓z_len_sl, ↓z_len_msl, ↓z_len_str, ↓z_load1, ↓z_fa, ↓z_fa_ref, ↓z_callF, ↓z_andK, ↓z_orK, ↓z_and1, ↓z_and2, ↓z_and3, ↓z_and4, ↓z_and5, ↓z_and6, ↓z_and7, ↓z_and8, ↓z_and9, ↓z_and10, ↓z_and11, ↓z_and12, ↓z_or1, ↓z_or2, ↓z_or3, ↓z_or4, ↓z_or5, ↓z_or6, ↓z_or7, ↓z_or8, ↓z_or9, ↓z_or10, ↓z_or11, ↓z_or12, ↓z_add, ↓z_sub, ↓z_mul, ↓z_eql, ↓z_neq, ↓z_lss, ↓z_leq, ↓z_gtr, ↓z_geq, ↓z_not, ↓z_neg, ↓z_fin_int, ↓z_fin_bool, ↓z_fin_str, ↓z_ent_int, ↓z_ent_bool, ↓z_ent_str, ↓z_stn, ↓z_ldnn, ↓z_ldn0, ↓z_ldn1, ↓z_ldn2, ↓z_ldn3, ↓z_ldn4, ↓z_ldn5, ↓z_ldn6, ↓z_ldn7, ↓z_ldn8, List.drop_zero, List.drop_succ_cons, List.cons_append, List.nil_append, decide_eq_true_eq, decide_eq_false_iff_not, ite_not, ↓reduceIte, pub_agg, pub_int, pub_bool, pub_str, pub_fn, pub_vptr, pub_nilp, Nat.zero_add, List.length_cons, List.length_nil, Nat.reduceAdd, List.all_cons, List.all_nil, isCell_int, isCell_bool, isCell_str, isCell_sl, Bool.and_self, ↓z_loadn, Nat.reduceLeDiff, Nat.le_refl, List.take_succ_cons, List.take_zero, z_call0 (f8_ok' G X _ _ _ _), addI]
theorem f23_ok (m b x y : Int) (s : St) : callω T1 G X 23 [.agg (rcs m b), I x, I y] s = .ok (I (subI m x y)) s := by
  rw [f23_call, f23_eq]
  simp -implicitDefEqProofs only [rcs, ↓z_ret, ↓z_val, ↓z_pick, ↓z_cond, ↓z_boxRo_agg, ↓z_boxRo_int, ↓z_boxRo_bool, ↓z_boxRo_str, ↓z_boxRo_sl, ↓z_boxRo_fn, ↓z_boxRo_vptr, ↓z_boxRo_ref, ↓z_len_sl, ↓z_len_msl, ↓z_len_str, ↓z_load1, ↓z_fa, ↓z_fa_ref, ↓z_callF, ↓z_andK, ↓z_orK, ↓z_and1, ↓z_and2, ↓z_and3, ↓z_and4, ↓z_and5, ↓z_and6, ↓z_and7, ↓z_and8, ↓z_and9, ↓z_and10, ↓z_and11, ↓z_and12, ↓z_or1, ↓z_or2, ↓z_or3, ↓z_or4, ↓z_or5, ↓z_or6, ↓z_or7, ↓z_or8, ↓z_or9, ↓z_or10, ↓z_or11, ↓z_or12, ↓z_add, ↓z_sub, ↓z_mul, ↓z_eql, ↓z_neq, ↓z_lss, ↓z_leq, ↓z_gtr, ↓z_geq, ↓z_not, ↓z_neg, ↓z_fin_int, ↓z_fin_bool, ↓z_fin_str, ↓z_ent_int, ↓z_ent_bool, ↓z_ent_str, ↓z_stn, ↓z_ldnn, ↓z_ldn0, ↓z_ldn1, ↓z_ldn2, ↓z_ldn3, ↓z_ldn4, ↓z_ldn5, ↓z_ldn6, ↓z_ldn7, ↓z_ldn8, List.drop_zero, List.drop_succ_cons, List.cons_append, List.nil_append, decide_eq_true_eq, decide_eq_false_iff_not, ite_not, ↓reduceIte, pub_agg, pub_int, pub_bool, pub_str, pub_fn, pub_vptr, pub_nilp, Nat.zero_add, List.length_cons, List.length_nil, Nat.reduceAdd, List.all_cons, List.all_nil, isCell_int, isCell_bool, isCell_str, isCell_sl, Bool.and_self, ↓z_loadn, Nat.reduceLeDiff, Nat.le_refl, List.take_succ_cons, List.take_zero, z_call0 (f8_ok' G X _ _ _ _), subI]
theorem f25_ok (m b x y : Int) (s : St) : callω T1 G X 25 [.agg (rcs m b), I x, I y] s = .ok (I (mulI m x y)) s := by
  rw [f25_call, f25_eq]
  simp -implicitDefEqProofs only [rcs, ↓z_ret, ↓z_val, ↓z_pick, ↓z_cond, ↓z_boxRo_agg, ↓z_boxRo_int, ↓z_boxRo_bool, ↓z_boxRo_str, ↓z_boxRo_sl, ↓z_boxRo_fn, ↓z_boxRo_vptr, ↓z_boxRo_ref, ↓z_len_sl, ↓z_len_msl, ↓z_len_str, ↓z_load1, ↓z_fa, ↓z_fa_ref, ↓z_callF, ↓z_andK, ↓z_orK, ↓z_and1, ↓z_and2, ↓z_and3, ↓z_and4, ↓z_and5, ↓z_and6, ↓z_and7, ↓z_and8, ↓z_and9, ↓z_and10, ↓z_and11, ↓z_and12, ↓z_or1, ↓z_or2, ↓z_or3, ↓z_or4, ↓z_or5, ↓z_or6, ↓z_or7, ↓z_or8, ↓z_or9, ↓z_or10, ↓z_or11, ↓z_or12, ↓z_add, ↓z_sub, ↓z_mul, ↓z_eql, ↓z_neq, ↓z_lss, ↓z_leq, ↓z_gtr, ↓z_geq, ↓z_not, ↓z_neg, ↓z_fin_int, ↓z_fin_bool, ↓z_fin_str, ↓z_ent_int, ↓z_ent_bool, ↓z_ent_str, ↓z_stn, ↓z_ldnn, ↓z_ldn0, ↓z_ldn1, ↓z_ldn2, ↓z_ldn3, ↓z_ldn4, ↓z_ldn5, ↓z_ldn6, ↓z_ldn7, ↓z_ldn8, List.drop_zero, List.drop_succ_cons, List.cons_append, List.nil_append, decide_eq_true_eq, decide_eq_false_iff_not, ite_not, ↓reduceIte, pub_agg, pub_int, pub_bool, pub_str, pub_fn, pub_vptr, pub_nilp, Nat.zero_add, List.length_cons, List.length_nil, Nat.reduceAdd, List.all_cons, List.all_nil, isCell_int, isCell_bool, isCell_str, isCell_sl, Bool.and_self, ↓z_loadn, Nat.reduceLeDiff, Nat.le_refl, List.take_succ_cons, List.take_zero, z_call0 (f8_ok' G X _ _ _ _), mulI]
theorem f27_ok (m b i a : Int) (s : St) : callω T1 G X 27 [.agg (rcs m b), I i, I a] s = .ok (I (rootI m b i a)) s := by
  rw [f27_call, f27_eq]
  have hr : AV.reflessL [.agg (rcs m b), I b] = true := rfl
  have hr2 : ∀ q, AV.reflessL [.agg (rcs m b), I q, I a] = true := fun _ => rfl
  have hr3 : ∀ q, AV.reflessL [.agg (rcs m b), I q] = true := fun _ => rfl
  simp -implicitDefEqProofs only [rcs] at hr hr2 hr3
  have h8 := fun n => f8_ok' G X m b n { own := [], up := [], ro := [] }
  have h25 := fun x y => f25_ok G X m b x y { own := [], up := [], ro := [] }
  simp -implicitDefEqProofs only [rcs] at h8 h25
  have hi : ¬ (0 ≤ i ∧ i < 0) := by omega
  by_cases h0 : 0 ≤ i
  · have h1 : ¬ i < 0 := by omega
    simp -implicitDefEqProofs only [rcs, ↓z_ret, ↓z_val, ↓z_pick, ↓z_cond, ↓z_boxRo_agg, ↓z_boxRo_int, ↓z_boxRo_bool, ↓z_boxRo_str, ↓z_boxRo_sl, ↓z_boxRo_fn, ↓z_boxRo_vptr, ↓z_boxRo_ref, ↓z_len_sl, ↓z_len_msl, ↓z_len_str, ↓z_load1, ↓z_fa, ↓z_fa_ref, ↓z_callF, ↓z_andK, ↓z_orK, ↓z_and1, ↓z_and2, ↓z_and3, ↓z_and4, ↓z_and5, ↓z_and6, ↓z_and7, ↓z_and8, ↓z_and9, ↓z_and10, ↓z_and11, ↓z_and12, ↓z_or1, ↓z_or2, ↓z_or3, ↓z_or4, ↓z_or5, ↓z_or6, ↓z_or7, ↓z_or8, ↓z_or9, ↓z_or10, ↓z_or11, ↓z_or12, ↓z_add, ↓z_sub, ↓z_mul, ↓z_eql, ↓z_neq, ↓z_lss, ↓z_leq, ↓z_gtr, ↓z_geq, ↓z_not, ↓z_neg, ↓z_fin_int, ↓z_fin_bool, ↓z_fin_str, ↓z_ent_int, ↓z_ent_bool, ↓z_ent_str, ↓z_stn, ↓z_ldnn, ↓z_ldn0, ↓z_ldn1, ↓z_ldn2, ↓z_ldn3, ↓z_ldn4, ↓z_ldn5, ↓z_ldn6, ↓z_ldn7, ↓z_ldn8, List.drop_zero, List.drop_succ_cons, List.cons_append, List.nil_append, decide_eq_true_eq, decide_eq_false_iff_not, ite_not, ↓reduceIte, pub_agg, pub_int, pub_bool, pub_str, pub_fn, pub_vptr, pub_nilp, Nat.zero_add, List.length_cons, List.length_nil, Nat.reduceAdd, List.all_cons, List.all_nil, isCell_int, isCell_bool, isCell_str, isCell_sl, Bool.and_self, ↓z_loadn, Nat.reduceLeDiff, Nat.le_refl, List.take_succ_cons, List.take_zero, eq_true h0, eq_false h1, decide_true, decide_false, Bool.false_eq_true, Int.natCast_zero, f27_j1_eq _ (PP_ok _ _ _), z_callP (hr3 _) (h8 _) rfl, z_callP (hr2 _) (h25 _ _) rfl, z_call0 (f21_ok G X _ _ _ _ _), rootI]
  · simp -implicitDefEqProofs only [rcs, ↓z_ret, ↓z_val, ↓z_pick, ↓z_cond, ↓z_boxRo_agg, ↓z_boxRo_int, ↓z_boxRo_bool, ↓z_boxRo_str, ↓z_boxRo_sl, ↓z_boxRo_fn, ↓z_boxRo_vptr, ↓z_boxRo_ref, ↓z_len_sl, ↓z_len_msl, ↓z_len_str, ↓z_load1, ↓z_fa, ↓z_fa_ref, ↓z_callF, ↓z_andK, ↓z_orK, ↓z_and1, ↓z_and2, ↓z_and3, ↓z_and4, ↓z_and5, ↓z_and6, ↓z_and7, ↓z_and8, ↓z_and9, ↓z_and10, ↓z_and11, ↓z_and12, ↓z_or1, ↓z_or2, ↓z_or3, ↓z_or4, ↓z_or5, ↓z_or6, ↓z_or7, ↓z_or8, ↓z_or9, ↓z_or10, ↓z_or11, ↓z_or12, ↓z_add, ↓z_sub, ↓z_mul, ↓z_eql, ↓z_neq, ↓z_lss, ↓z_leq, ↓z_gtr, ↓z_geq, ↓z_not, ↓z_neg, ↓z_fin_int, ↓z_fin_bool, ↓z_fin_str, ↓z_ent_int, ↓z_ent_bool, ↓z_ent_str, ↓z_stn, ↓z_ldnn, ↓z_ldn0, ↓z_ldn1, ↓z_ldn2, ↓z_ldn3, ↓z_ldn4, ↓z_ldn5, ↓z_ldn6, ↓z_ldn7, ↓z_ldn8, List.drop_zero, List.drop_succ_cons, List.cons_append, List.nil_append, decide_eq_true_eq, decide_eq_false_iff_not, ite_not, ↓reduceIte, pub_agg, pub_int, pub_bool, pub_str, pub_fn, pub_vptr, pub_nilp, Nat.zero_add, List.length_cons, List.length_nil, Nat.reduceAdd, List.all_cons, List.all_nil, isCell_int, isCell_bool, isCell_str, isCell_sl, Bool.and_self, ↓z_loadn, Nat.reduceLeDiff, Nat.le_refl, List.take_succ_cons, List.take_zero, eq_false h0, decide_true, decide_false, Bool.false_eq_true, f27_j1_eq _ (PP_ok _ _ _), z_callP (hr3 _) (h8 _) rfl, z_callP (hr2 _) (h25 _ _) rfl, z_call0 (f21_ok G X _ _ _ _ _), rootI]
theorem f19_ok (m b n : Int) (s : St) : callω T1 G X 19 [I n, .vptr (rcs m b)] s = .ok (I (redI m n)) s := by
  rw [f19_call, f19_eq]
  simp -implicitDefEqProofs only [rcs, ↓z_ret, ↓z_val, ↓z_pick, ↓z_cond, ↓z_boxRo_agg, ↓z_boxRo_int, ↓z_boxRo_bool, ↓z_boxRo_str, ↓z_boxRo_sl, ↓z_boxRo_fn, ↓z_boxRo_vptr, ↓z_boxRo_ref, ↓z_len_sl, ↓z_len_msl, ↓z_len_str, ↓z_load1, ↓z_fa, ↓z_fa_ref, ↓z_callF, ↓z_andK, ↓z_orK, ↓z_and1, ↓z_and2, ↓z_and3, ↓z_and4, ↓z_and5, ↓z_and6, ↓z_and7, ↓z_and8, ↓z_and9, ↓z_and10, ↓z_and11, ↓z_and12, ↓z_or1, ↓z_or2, ↓z_or3, ↓z_or4, ↓z_or5, ↓z_or6, ↓z_or7, ↓z_or8, ↓z_or9, ↓z_or10, ↓z_or11, ↓z_or12, ↓z_add, ↓z_sub, ↓z_mul, ↓z_eql, ↓z_neq, ↓z_lss, ↓z_leq, ↓z_gtr, ↓z_geq, ↓z_not, ↓z_neg, ↓z_fin_int, ↓z_fin_bool, ↓z_fin_str, ↓z_ent_int, ↓z_ent_bool, ↓z_ent_str, ↓z_stn, ↓z_ldnn, ↓z_ldn0, ↓z_ldn1, ↓z_ldn2, ↓z_ldn3, ↓z_ldn4, ↓z_ldn5, ↓z_ldn6, ↓z_ldn7, ↓z_ldn8, List.drop_zero, List.drop_succ_cons, List.cons_append, List.nil_append, decide_eq_true_eq, decide_eq_false_iff_not, ite_not, ↓reduceIte, pub_agg, pub_int, pub_bool, pub_str, pub_fn, pub_vptr, pub_nilp, Nat.zero_add, List.length_cons, List.length_nil, Nat.reduceAdd, List.all_cons, List.all_nil, isCell_int, isCell_bool, isCell_str, isCell_sl, Bool.and_self, ↓z_loadn, Nat.reduceLeDiff, Nat.le_refl, List.take_succ_cons, List.take_zero, z_call0 (f8_ok' G X _ _ _ _)]
theorem f20_ok (m b x y : Int) (s : St) : callω T1 G X 20 [I x, I y, .vptr (rcs m b)] s = .ok (I (addI m x y)) s := by
  rw [f20_call, f20_eq]
  simp -implicitDefEqProofs only [rcs, ↓z_ret, ↓z_val, ↓z_pick, ↓z_cond, ↓z_boxRo_agg, ↓z_boxRo_int, ↓z_boxRo_bool, ↓z_boxRo_str, ↓z_boxRo_sl, ↓z_boxRo_fn, ↓z_boxRo_vptr, ↓z_boxRo_ref, ↓z_len_sl, ↓z_len_msl, ↓z_len_str, ↓z_load1, ↓z_fa, ↓z_fa_ref, ↓z_callF, ↓z_andK, ↓z_orK, ↓z_and1, ↓z_and2, ↓z_and3, ↓z_and4, ↓z_and5, ↓z_and6, ↓z_and7, ↓z_and8, ↓z_and9, ↓z_and10, ↓z_and11, ↓z_and12, ↓z_or1, ↓z_or2, ↓z_or3, ↓z_or4, ↓z_or5, ↓z_or6, ↓z_or7, ↓z_or8, ↓z_or9, ↓z_or10, ↓z_or11, ↓z_or12, ↓z_add, ↓z_sub, ↓z_mul, ↓z_eql, ↓z_neq, ↓z_lss, ↓z_leq, ↓z_gtr, ↓z_geq, ↓z_not, ↓z_neg, ↓z_fin_int, ↓z_fin_bool, ↓z_fin_str, ↓z_ent_int, ↓z_ent_bool, ↓z_ent_str, ↓z_stn, ↓z_ldnn, ↓z_ldn0, ↓z_ldn1, ↓z_ldn2, ↓z_ldn3, ↓z_ldn4, ↓z_ldn5, ↓z_ldn6, ↓z_ldn7, ↓z_ldn8, List.drop_zero, List.drop_succ_cons, List.cons_append, List.nil_append, decide_eq_true_eq, decide_eq_false_iff_not, ite_not, ↓reduceIte, pub_agg, pub_int, pub_bool, pub_str, pub_fn, pub_vptr, pub_nilp, Nat.zero_add, List.length_cons, List.length_nil, Nat.reduceAdd, List.all_cons, List.all_nil, isCell_int, isCell_bool, isCell_str, isCell_sl, Bool.and_self, ↓z_loadn, Nat.reduceLeDiff, Nat.le_refl, List.take_succ_cons, List.take_zero, z_call0 (f21_ok G X _ _ _ _ _)]
theorem f22_ok (m b x y : Int) (s : St) : callω T1 G X 22 [I x, I y, .vptr (rcs m b)] s = .ok (I (subI m x y)) s := by
  rw [f22_call, f22_eq]
  simp -implicitDefEqProofs only [rcs, ↓z_ret, ↓z_val, ↓z_pick, ↓z_cond, ↓z_boxRo_agg, ↓z_boxRo_int, ↓z_boxRo_bool, ↓z_boxRo_str, ↓z_boxRo_sl, ↓z_boxRo_fn, ↓z_boxRo_vptr, ↓z_boxRo_ref, ↓z_len_sl, ↓z_len_msl, ↓z_len_str, ↓z_load1, ↓z_fa, ↓z_fa_ref, ↓z_callF, ↓z_andK, ↓z_orK, ↓z_and1, ↓z_and2, ↓z_and3, ↓z_and4, ↓z_and5, ↓z_and6, ↓z_and7, ↓z_and8, ↓z_and9, ↓z_and10, ↓z_and11, ↓z_and12, ↓z_or1, ↓z_or2, ↓z_or3, ↓z_or4, ↓z_or5, ↓z_or6, ↓z_or7, ↓z_or8, ↓z_or9, ↓z_or10, ↓z_or11, ↓z_or12, ↓z_add, ↓z_sub, ↓z_mul, ↓z_eql, ↓z_neq, ↓z_lss, ↓z_leq, ↓z_gtr, ↓z_geq, ↓z_not, ↓z_neg, ↓z_fin_int, ↓z_fin_bool, ↓z_fin_str, ↓z_ent_int, ↓z_ent_bool, ↓z_ent_str, ↓z_stn, ↓z_ldnn, ↓z_ldn0, ↓z_ldn1, ↓z_ldn2, ↓z_ldn3, ↓z_ldn4, ↓z_ldn5, ↓z_ldn6, ↓z_ldn7, ↓z_ldn8, List.drop_zero, List.drop_succ_cons, List.cons_append, List.nil_append, decide_eq_true_eq, decide_eq_false_iff_not, ite_not, ↓reduceIte, pub_agg, pub_int, pub_bool, pub_str, pub_fn, pub_vptr, pub_nilp, Nat.zero_add, List.length_cons, List.length_nil, Nat.reduceAdd, List.all_cons, List.all_nil, isCell_int, isCell_bool, isCell_str, isCell_sl, Bool.and_self, ↓z_loadn, Nat.reduceLeDiff, Nat.le_refl, List.take_succ_cons, List.take_zero, z_call0 (f23_ok G X _ _ _ _ _)]
theorem f24_ok (m b x y : Int) (s : St) : callω T1 G X 24 [I x, I y, .vptr (rcs m b)] s = .ok (I (mulI m x y)) s := by
  rw [f24_call, f24_eq]
  simp -implicitDefEqProofs only [rcs, ↓z_ret, ↓z_val, ↓z_pick, ↓z_cond, ↓z_boxRo_agg, ↓z_boxRo_int, ↓z_boxRo_bool, ↓z_boxRo_str, ↓z_boxRo_sl, ↓z_boxRo_fn, ↓z_boxRo_vptr, ↓z_boxRo_ref, ↓z_len_sl, ↓z_len_msl, ↓z_len_str, ↓z_load1, ↓z_fa, ↓z_fa_ref, ↓z_callF, ↓z_andK, ↓z_orK, ↓z_and1, ↓z_and2, ↓z_and3, ↓z_and4, ↓z_and5, ↓z_and6, ↓z_and7, ↓z_and8, ↓z_and9, ↓z_and10, ↓z_and11, ↓z_and12, ↓z_or1, ↓z_or2, ↓z_or3, ↓z_or4, ↓z_or5, ↓z_or6, ↓z_or7, ↓z_or8, ↓z_or9, ↓z_or10, ↓z_or11, ↓z_or12, ↓z_add, ↓z_sub, ↓z_mul, ↓z_eql, ↓z_neq, ↓z_lss, ↓z_leq, ↓z_gtr, ↓z_geq, ↓z_not, ↓z_neg, ↓z_fin_int, ↓z_fin_bool, ↓z_fin_str, ↓z_ent_int, ↓z_ent_bool, ↓z_ent_str, ↓z_stn, ↓z_ldnn, ↓z_ldn0, ↓z_ldn1, ↓z_ldn2, ↓z_ldn3, ↓z_ldn4, ↓z_ldn5, ↓z_ldn6, ↓z_ldn7, ↓z_ldn8, List.drop_zero, List.drop_succ_cons, List.cons_append, List.nil_append, decide_eq_true_eq, decide_eq_false_iff_not, ite_not, ↓reduceIte, pub_agg, pub_int, pub_bool, pub_str, pub_fn, pub_vptr, pub_nilp, Nat.zero_add, List.length_cons, List.length_nil, Nat.reduceAdd, List.all_cons, List.all_nil, isCell_int, isCell_bool, isCell_str, isCell_sl, Bool.and_self, ↓z_loadn, Nat.reduceLeDiff, Nat.le_refl, List.take_succ_cons, List.take_zero, z_call0 (f25_ok G X _ _ _ _ _)]
theorem f26_ok (m b x y : Int) (s : St) : callω T1 G X 26 [I x, I y, .vptr (rcs m b)] s = .ok (I (rootI m b x y)) s := by
  rw [f26_call, f26_eq]
  simp -implicitDefEqProofs only [rcs, ↓z_ret, ↓z_val, ↓z_pick, ↓z_cond, ↓z_boxRo_agg, ↓z_boxRo_int, ↓z_boxRo_bool, ↓z_boxRo_str, ↓z_boxRo_sl, ↓z_boxRo_fn, ↓z_boxRo_vptr, ↓z_boxRo_ref, ↓z_len_sl, ↓z_len_msl, ↓z_len_str, ↓z_load1, ↓z_fa, ↓z_fa_ref, ↓z_callF, ↓z_andK, ↓z_orK, ↓z_and1, ↓z_and2, ↓z_and3, ↓z_and4, ↓z_and5, ↓z_and6, ↓z_and7, ↓z_and8, ↓z_and9, ↓z_and10, ↓z_and11, ↓z_and12, ↓z_or1, ↓z_or2, ↓z_or3, ↓z_or4, ↓z_or5, ↓z_or6, ↓z_or7, ↓z_or8, ↓z_or9, ↓z_or10, ↓z_or11, ↓z_or12, ↓z_add, ↓z_sub, ↓z_mul, ↓z_eql, ↓z_neq, ↓z_lss, ↓z_leq, ↓z_gtr, ↓z_geq, ↓z_not, ↓z_neg, ↓z_fin_int, ↓z_fin_bool, ↓z_fin_str, ↓z_ent_int, ↓z_ent_bool, ↓z_ent_str, ↓z_stn, ↓z_ldnn, ↓z_ldn0, ↓z_ldn1, ↓z_ldn2, ↓z_ldn3, ↓z_ldn4, ↓z_ldn5, ↓z_ldn6, ↓z_ldn7, ↓z_ldn8, List.drop_zero, List.drop_succ_cons, List.cons_append, List.nil_append, decide_eq_true_eq, decide_eq_false_iff_not, ite_not, ↓reduceIte, pub_agg, pub_int, pub_bool, pub_str, pub_fn, pub_vptr, pub_nilp, Nat.zero_add, List.length_cons, List.length_nil, Nat.reduceAdd, List.all_cons, List.all_nil, isCell_int, isCell_bool, isCell_str, isCell_sl, Bool.and_self, ↓z_loadn, Nat.reduceLeDiff, Nat.le_refl, List.take_succ_cons, List.take_zero, z_call0 (f27_ok G X _ _ _ _ _)]
def ringCs (m b : Int) : List AV := [.fn 19 [.vptr (rcs m b)], .fn 20 [.vptr (rcs m b)], .fn 22 [.vptr (rcs m b)], .fn 24 [.vptr (rcs m b)], .fn 26 [.vptr (rcs m b)]]
theorem f10_ok (m b : Int) : callω T1 G X 10 [.agg (rcs m b)] { own := [], up := [], ro := [] } = .ok (.agg (ringCs m b)) { own := [], up := [], ro := [] } := by
  rw [f10_call, f10_eq]
  rfl
end Go.AbY
end
