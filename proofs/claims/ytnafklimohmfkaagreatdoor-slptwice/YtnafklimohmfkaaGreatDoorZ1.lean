/- The contracts of some functions of the program, as the abstract evaluator runs them: for every argument that their texts name. -/
import Derived.Test.YtnafklimohmfkaaGreatDoorTabZH
import Derived.Test.YtnafklimohmfkaaGreatDoorH
section
namespace Go.AbZ
open Go.Ab
variable (G : Nat → AV) (X : Nat → List AV → St → Res)
set_option linter.unusedSimpArgs false
set_option linter.unusedVariables false
abbrev I (n : Int) : AV := .int .i64 n
/-- An instruction. -/
structure Ins where
  op : Int
  a : Int
  b : Int
def Ins.cs (x : Ins) : List AV := [.int .i64 x.op, .int .i64 x.a, .int .i64 x.b]
def Ins.enc (x : Ins) : AV := .agg x.cs
/-- A program. -/
structure Prog where
  inputs : Int
  ins : List Ins
  gi : Gr
  vals : List (List Int × Gr)
  gv : Gr
  roots : List Int
  gr : Gr
abbrev sl1 (l : List Int) (g : Gr) : AV := .sl 1 (l.map I) g
def Prog.cs (p : Prog) : List AV := [.int .i64 p.inputs, .sl 3 (p.ins.map Ins.enc) p.gi, .sl 1 (p.vals.map fun v => sl1 v.1 v.2) p.gv, sl1 p.roots p.gr]
def Prog.enc (p : Prog) : AV := .agg p.cs

theorem f138_ok (r at' : Int) (s : St) : callω T1 G X 138 [.int .i64 r, .vptr [.int .i64 at']] s = .ok (.bool (decide (0 ≤ r ∧ r < at'))) s := by
  rw [f138_call, f138_eq]
  simp -implicitDefEqProofs only [↓z_ret, ↓z_val, ↓z_pick, ↓z_cond, ↓z_boxRo_agg, ↓z_boxRo_int, ↓z_boxRo_bool, ↓z_boxRo_str, ↓z_boxRo_sl, ↓z_boxRo_fn, ↓z_boxRo_vptr, ↓z_boxRo_ref, ↓z_len_sl, ↓z_len_msl, ↓z_len_str, ↓z_load1, ↓z_fa, ↓z_fa_ref, ↓z_callF, ↓z_andK, ↓z_orK, ↓z_and1, ↓z_and2, ↓z_and3, ↓z_and4, ↓z_and5, ↓z_and6, ↓z_and7, ↓z_and8, ↓z_and9, ↓z_and10, ↓z_and11, ↓z_and12, ↓z_or1, ↓z_or2, ↓z_or3, ↓z_or4, ↓z_or5, ↓z_or6, ↓z_or7, ↓z_or8, ↓z_or9, ↓z_or10, ↓z_or11, ↓z_or12, ↓z_add, ↓z_sub, ↓z_mul, ↓z_eql, ↓z_neq, ↓z_lss, ↓z_leq, ↓z_gtr, ↓z_geq, ↓z_not, ↓z_neg, ↓z_fin_int, ↓z_fin_bool, ↓z_fin_str, ↓z_ent_int, ↓z_ent_bool, ↓z_ent_str, ↓z_stn, ↓z_ldnn, ↓z_ldn0, ↓z_ldn1, ↓z_ldn2, ↓z_ldn3, ↓z_ldn4, ↓z_ldn5, ↓z_ldn6, ↓z_ldn7, ↓z_ldn8, List.drop_zero, List.drop_succ_cons, List.cons_append, List.nil_append, decide_eq_true_eq, decide_eq_false_iff_not, ite_not, ↓reduceIte, pub_agg, pub_int, pub_bool, pub_str, pub_fn, pub_vptr, pub_nilp, Nat.zero_add, List.length_cons, List.length_nil, Nat.reduceAdd, List.all_cons, List.all_nil, isCell_int, isCell_bool, isCell_str, isCell_sl, Bool.and_self, ↓z_loadn, Nat.reduceLeDiff, Nat.le_refl, List.take_succ_cons, List.take_zero, ite_okb, ite_and']

/-- May an instruction stand at a place? -/
def okIns (x : Ins) (at' inputs : Int) : Bool :=
  if x.op = 1 then decide (0 ≤ x.a ∧ x.a < inputs ∧ x.b = 0)
  else if x.op = 2 then decide (-1000 ≤ x.a ∧ x.a ≤ 1000 ∧ x.b = 0)
  else if x.op = 3 ∨ x.op = 4 ∨ x.op = 5 then decide ((0 ≤ x.a ∧ x.a < at') ∧ (0 ≤ x.b ∧ x.b < at'))
  else if x.op = 6 then decide ((0 ≤ x.a ∧ x.a < at') ∧ x.b = 0)
  else false
theorem f88_ok (x : Ins) (at' inputs : Int) (s : St) : callω T1 G X 88 [x.enc, .int .i64 at', .int .i64 inputs] s = .ok (.bool (okIns x at' inputs)) s := by
  rw [f88_call, f88_eq]
  simp -implicitDefEqProofs only [Ins.enc, Ins.cs, ↓z_ret, ↓z_val, ↓z_pick, ↓z_cond, ↓z_boxRo_agg, ↓z_boxRo_int, ↓z_boxRo_bool, ↓z_boxRo_str, ↓z_boxRo_sl, ↓z_boxRo_fn, ↓z_boxRo_vptr, ↓z_boxRo_ref, ↓z_len_sl, ↓z_len_msl, ↓z_len_str, ↓z_load1, ↓z_fa, ↓z_fa_ref, ↓z_callF, ↓z_andK, ↓z_orK, ↓z_and1, ↓z_and2, ↓z_and3, ↓z_and4, ↓z_and5, ↓z_and6, ↓z_and7, ↓z_and8, ↓z_and9, ↓z_and10, ↓z_and11, ↓z_and12, ↓z_or1, ↓z_or2, ↓z_or3, ↓z_or4, ↓z_or5, ↓z_or6, ↓z_or7, ↓z_or8, ↓z_or9, ↓z_or10, ↓z_or11, ↓z_or12, ↓z_add, ↓z_sub, ↓z_mul, ↓z_eql, ↓z_neq, ↓z_lss, ↓z_leq, ↓z_gtr, ↓z_geq, ↓z_not, ↓z_neg, ↓z_fin_int, ↓z_fin_bool, ↓z_fin_str, ↓z_ent_int, ↓z_ent_bool, ↓z_ent_str, ↓z_stn, ↓z_ldnn, ↓z_ldn0, ↓z_ldn1, ↓z_ldn2, ↓z_ldn3, ↓z_ldn4, ↓z_ldn5, ↓z_ldn6, ↓z_ldn7, ↓z_ldn8, List.drop_zero, List.drop_succ_cons, List.cons_append, List.nil_append, decide_eq_true_eq, decide_eq_false_iff_not, ite_not, ↓reduceIte, pub_agg, pub_int, pub_bool, pub_str, pub_fn, pub_vptr, pub_nilp, Nat.zero_add, List.length_cons, List.length_nil, Nat.reduceAdd, List.all_cons, List.all_nil, isCell_int, isCell_bool, isCell_str, isCell_sl, Bool.and_self, ↓z_loadn, Nat.reduceLeDiff, Nat.le_refl, List.take_succ_cons, List.take_zero, f88_j1_eq _ (PP_ok _ _ _), f88_j2_eq _ (PP_ok _ _ _), z_call0 (f138_ok G X _ _ _), ite_okb, ite_and']
  congr 2
  unfold okIns
  grind
theorem f51_ok (x : Ins) (at' inputs : Int) (s : St) : callω T1 G X 51 [x.enc, .int .i64 at', .int .i64 inputs] s = .ok (.bool (okIns x at' inputs)) s := by
  rw [f51_call, f51_eq]
  simp -implicitDefEqProofs only [Ins.enc, Ins.cs, ↓z_ret, ↓z_val, ↓z_pick, ↓z_cond, ↓z_boxRo_agg, ↓z_boxRo_int, ↓z_boxRo_bool, ↓z_boxRo_str, ↓z_boxRo_sl, ↓z_boxRo_fn, ↓z_boxRo_vptr, ↓z_boxRo_ref, ↓z_len_sl, ↓z_len_msl, ↓z_len_str, ↓z_load1, ↓z_fa, ↓z_fa_ref, ↓z_callF, ↓z_andK, ↓z_orK, ↓z_and1, ↓z_and2, ↓z_and3, ↓z_and4, ↓z_and5, ↓z_and6, ↓z_and7, ↓z_and8, ↓z_and9, ↓z_and10, ↓z_and11, ↓z_and12, ↓z_or1, ↓z_or2, ↓z_or3, ↓z_or4, ↓z_or5, ↓z_or6, ↓z_or7, ↓z_or8, ↓z_or9, ↓z_or10, ↓z_or11, ↓z_or12, ↓z_add, ↓z_sub, ↓z_mul, ↓z_eql, ↓z_neq, ↓z_lss, ↓z_leq, ↓z_gtr, ↓z_geq, ↓z_not, ↓z_neg, ↓z_fin_int, ↓z_fin_bool, ↓z_fin_str, ↓z_ent_int, ↓z_ent_bool, ↓z_ent_str, ↓z_stn, ↓z_ldnn, ↓z_ldn0, ↓z_ldn1, ↓z_ldn2, ↓z_ldn3, ↓z_ldn4, ↓z_ldn5, ↓z_ldn6, ↓z_ldn7, ↓z_ldn8, List.drop_zero, List.drop_succ_cons, List.cons_append, List.nil_append, decide_eq_true_eq, decide_eq_false_iff_not, ite_not, ↓reduceIte, pub_agg, pub_int, pub_bool, pub_str, pub_fn, pub_vptr, pub_nilp, Nat.zero_add, List.length_cons, List.length_nil, Nat.reduceAdd, List.all_cons, List.all_nil, isCell_int, isCell_bool, isCell_str, isCell_sl, Bool.and_self, ↓z_loadn, Nat.reduceLeDiff, Nat.le_refl, List.take_succ_cons, List.take_zero, f51_j1_eq _ (PP_ok _ _ _), f51_j2_eq _ (PP_ok _ _ _), ite_okb, ite_and']
  congr 2
  unfold okIns
  grind

theorem f32_loop (a b : List Int) (ga gb : Gr) (s : St) (hl : a.length = b.length) (hb : a.length ≤ 9223372036854775807) : ∀ (n i : Nat), i + n = a.length → ∀ S, Child s S →
    f32_l2 (PP T1 G X) (.sl 1 (a.map I) ga) (.sl 1 (b.map I) gb) (.int .i64 (i : Int)) S = .ok (.bool (decide (a.drop i = b.drop i))) s := by
  intro n
  induction n with
  | zero =>
    intro i hi S hS
    rw [f32_l2_eq _ (PP_ok _ _ _)]
    have h : ¬ ((i : Int) < (a.length : Int)) := by omega
    simp -implicitDefEqProofs only [↓z_ret, ↓z_val, ↓z_pick, ↓z_cond, ↓z_boxRo_agg, ↓z_boxRo_int, ↓z_boxRo_bool, ↓z_boxRo_str, ↓z_boxRo_sl, ↓z_boxRo_fn, ↓z_boxRo_vptr, ↓z_boxRo_ref, ↓z_len_sl, ↓z_len_msl, ↓z_len_str, ↓z_load1, ↓z_fa, ↓z_fa_ref, ↓z_callF, ↓z_andK, ↓z_orK, ↓z_and1, ↓z_and2, ↓z_and3, ↓z_and4, ↓z_and5, ↓z_and6, ↓z_and7, ↓z_and8, ↓z_and9, ↓z_and10, ↓z_and11, ↓z_and12, ↓z_or1, ↓z_or2, ↓z_or3, ↓z_or4, ↓z_or5, ↓z_or6, ↓z_or7, ↓z_or8, ↓z_or9, ↓z_or10, ↓z_or11, ↓z_or12, ↓z_add, ↓z_sub, ↓z_mul, ↓z_eql, ↓z_neq, ↓z_lss, ↓z_leq, ↓z_gtr, ↓z_geq, ↓z_not, ↓z_neg, ↓z_fin_int, ↓z_fin_bool, ↓z_fin_str, ↓z_ent_int, ↓z_ent_bool, ↓z_ent_str, ↓z_stn, ↓z_ldnn, ↓z_ldn0, ↓z_ldn1, ↓z_ldn2, ↓z_ldn3, ↓z_ldn4, ↓z_ldn5, ↓z_ldn6, ↓z_ldn7, ↓z_ldn8, List.drop_zero, List.drop_succ_cons, List.cons_append, List.nil_append, decide_eq_true_eq, decide_eq_false_iff_not, ite_not, ↓reduceIte, pub_agg, pub_int, pub_bool, pub_str, pub_fn, pub_vptr, pub_nilp, Nat.zero_add, List.length_cons, List.length_nil, Nat.reduceAdd, List.all_cons, List.all_nil, isCell_int, isCell_bool, isCell_str, isCell_sl, Bool.and_self, ↓z_loadn, Nat.reduceLeDiff, Nat.le_refl, List.take_succ_cons, List.take_zero, List.length_map, h, decide_false, Bool.false_eq_true, f32_j5_eq _ (PP_ok _ _ _), z_finC_bool hS]
    rw [List.drop_of_length_le (by omega), List.drop_of_length_le (by omega)]
    simp
  | succ n ih =>
    intro i hi S hS
    rw [f32_l2_eq _ (PP_ok _ _ _)]
    have h : (i : Int) < (a.length : Int) := by omega
    have ha : i < a.length := by omega
    have hb' : i < b.length := by omega
    have ea : (a.map I)[i]? = some (I a[i]) := by simp [ha]
    have eb : (b.map I)[i]? = some (I b[i]) := by simp [hb']
    have hw : IntKind.wrap .i64 ((i : Int) + 1) = ((i + 1 : Nat) : Int) := wrap_succ i (by omega)
    simp -implicitDefEqProofs only [↓z_ret, ↓z_val, ↓z_pick, ↓z_cond, ↓z_boxRo_agg, ↓z_boxRo_int, ↓z_boxRo_bool, ↓z_boxRo_str, ↓z_boxRo_sl, ↓z_boxRo_fn, ↓z_boxRo_vptr, ↓z_boxRo_ref, ↓z_len_sl, ↓z_len_msl, ↓z_len_str, ↓z_load1, ↓z_fa, ↓z_fa_ref, ↓z_callF, ↓z_andK, ↓z_orK, ↓z_and1, ↓z_and2, ↓z_and3, ↓z_and4, ↓z_and5, ↓z_and6, ↓z_and7, ↓z_and8, ↓z_and9, ↓z_and10, ↓z_and11, ↓z_and12, ↓z_or1, ↓z_or2, ↓z_or3, ↓z_or4, ↓z_or5, ↓z_or6, ↓z_or7, ↓z_or8, ↓z_or9, ↓z_or10, ↓z_or11, ↓z_or12, ↓z_add, ↓z_sub, ↓z_mul, ↓z_eql, ↓z_neq, ↓z_lss, ↓z_leq, ↓z_gtr, ↓z_geq, ↓z_not, ↓z_neg, ↓z_fin_int, ↓z_fin_bool, ↓z_fin_str, ↓z_ent_int, ↓z_ent_bool, ↓z_ent_str, ↓z_stn, ↓z_ldnn, ↓z_ldn0, ↓z_ldn1, ↓z_ldn2, ↓z_ldn3, ↓z_ldn4, ↓z_ldn5, ↓z_ldn6, ↓z_ldn7, ↓z_ldn8, List.drop_zero, List.drop_succ_cons, List.cons_append, List.nil_append, decide_eq_true_eq, decide_eq_false_iff_not, ite_not, ↓reduceIte, pub_agg, pub_int, pub_bool, pub_str, pub_fn, pub_vptr, pub_nilp, Nat.zero_add, List.length_cons, List.length_nil, Nat.reduceAdd, List.all_cons, List.all_nil, isCell_int, isCell_bool, isCell_str, isCell_sl, Bool.and_self, ↓z_loadn, Nat.reduceLeDiff, Nat.le_refl, List.take_succ_cons, List.take_zero, List.length_map, h, decide_true, if_true, f32_j3_eq _ (PP_ok _ _ _), f32_j4_eq _ (PP_ok _ _ _), z_idx _ _ _ _ _ _ ea, z_idx _ _ _ _ _ _ eb, AV.cells, z_finC_bool hS, hw, ih (i + 1) (by omega) S hS]
    rw [List.drop_eq_getElem_cons ha, List.drop_eq_getElem_cons hb']
    simp -implicitDefEqProofs only [List.cons.injEq]
    by_cases hab : a[i] = b[i]
    · simp -implicitDefEqProofs only [hab, true_and, not_true_eq_false, decide_false, ↓reduceIte]
    · simp -implicitDefEqProofs only [hab, false_and, not_false_eq_true, decide_false, ↓reduceIte]
theorem f32_ok (a b : List Int) (ga gb : Gr) (s : St) (hb : a.length ≤ 9223372036854775807) : callω T1 G X 32 [sl1 a ga, sl1 b gb] s = .ok (.bool (decide (a = b))) s := by
  rw [f32_call, f32_eq]
  simp -implicitDefEqProofs only [sl1, ↓z_ret, ↓z_val, ↓z_pick, ↓z_cond, ↓z_boxRo_agg, ↓z_boxRo_int, ↓z_boxRo_bool, ↓z_boxRo_str, ↓z_boxRo_sl, ↓z_boxRo_fn, ↓z_boxRo_vptr, ↓z_boxRo_ref, ↓z_len_sl, ↓z_len_msl, ↓z_len_str, ↓z_load1, ↓z_fa, ↓z_fa_ref, ↓z_callF, ↓z_andK, ↓z_orK, ↓z_and1, ↓z_and2, ↓z_and3, ↓z_and4, ↓z_and5, ↓z_and6, ↓z_and7, ↓z_and8, ↓z_and9, ↓z_and10, ↓z_and11, ↓z_and12, ↓z_or1, ↓z_or2, ↓z_or3, ↓z_or4, ↓z_or5, ↓z_or6, ↓z_or7, ↓z_or8, ↓z_or9, ↓z_or10, ↓z_or11, ↓z_or12, ↓z_add, ↓z_sub, ↓z_mul, ↓z_eql, ↓z_neq, ↓z_lss, ↓z_leq, ↓z_gtr, ↓z_geq, ↓z_not, ↓z_neg, ↓z_fin_int, ↓z_fin_bool, ↓z_fin_str, ↓z_ent_int, ↓z_ent_bool, ↓z_ent_str, ↓z_stn, ↓z_ldnn, ↓z_ldn0, ↓z_ldn1, ↓z_ldn2, ↓z_ldn3, ↓z_ldn4, ↓z_ldn5, ↓z_ldn6, ↓z_ldn7, ↓z_ldn8, List.drop_zero, List.drop_succ_cons, List.cons_append, List.nil_append, decide_eq_true_eq, decide_eq_false_iff_not, ite_not, ↓reduceIte, pub_agg, pub_int, pub_bool, pub_str, pub_fn, pub_vptr, pub_nilp, Nat.zero_add, List.length_cons, List.length_nil, Nat.reduceAdd, List.all_cons, List.all_nil, isCell_int, isCell_bool, isCell_str, isCell_sl, Bool.and_self, ↓z_loadn, Nat.reduceLeDiff, Nat.le_refl, List.take_succ_cons, List.take_zero, List.length_map, f32_j1_eq _ (PP_ok _ _ _)]
  by_cases h : a.length = b.length
  · have := f32_loop G X a b ga gb s h hb a.length 0 (by omega) s.enter (.enter s)
    simp -implicitDefEqProofs only [Int.natCast_zero, List.drop_zero] at this
    simp [h, this]
  · have h1 : ¬ (a.length : Int) = (b.length : Int) := by omega
    have h2 : ¬ a = b := fun e => h (by rw [e])
    simp [h1, h2]

/-- The instructions from one on, with the next root: the number of roots behind them. -/
def scan (roots : List Int) (inputs : Int) : List Ins → Nat → Nat → Option Nat
  | [], _, nx => some nx
  | x :: xs, i, nx =>
    if okIns x i inputs = true then
      if x.op = 6 then
        if roots[nx]? = some (i : Int) then scan roots inputs xs (i + 1) (nx + 1) else none
      else scan roots inputs xs (i + 1) nx
    else none
def inReg (n : Nat) (r : Int) : Bool := decide (0 ≤ r ∧ r < (n : Int))
def okVal (n : Nat) (v : List Int) : Bool := decide (v.length = 3 ∨ v.length = 7) && v.all (inReg n)
def Prog.check (p : Prog) : Int :=
  if p.inputs < 0 ∨ 20 < p.inputs ∨ 8192 < p.ins.length ∨ 5 < p.roots.length then 3
  else if scan p.roots p.inputs p.ins 0 0 = some p.roots.length ∧ (p.vals.all fun v => okVal p.ins.length v.1) = true then 0 else 3

/-- The registers of a value. -/
theorem f52_l13_ok (p : Prog) (v : List Int) (s : St) (g : Gr) (R : Res) (c70 : AV) (c71 c72 : Int) (hv : v.length ≤ 9223372036854775807) (hR : ∀ (S : St), Child s S → f52_j16 (PP T1 G X) (.vptr p.cs) c70 (I c71) (I c72) S = R) : ∀ (n i : Nat), i + n = v.length → ∀ (S : St), Child s S →
    f52_l13 (PP T1 G X) (.vptr p.cs) c70 (I c71) (I c72) (.sl 1 (v.map I) g) (I v.length) (.int .i64 (i : Int)) S = (if (v.drop i).all (inReg p.ins.length) = true then R else .ok (I 3) s) := by
  intro n
  induction n with
  | zero =>
    intro i hi S hS
    rw [f52_l13_eq _ (PP_ok _ _ _)]
    have h : ¬ ((i : Int) < (v.length : Int)) := by omega
    simp -implicitDefEqProofs only [↓z_ret, ↓z_val, ↓z_pick, ↓z_cond, ↓z_boxRo_agg, ↓z_boxRo_int, ↓z_boxRo_bool, ↓z_boxRo_str, ↓z_boxRo_sl, ↓z_boxRo_fn, ↓z_boxRo_vptr, ↓z_boxRo_ref, ↓z_len_sl, ↓z_len_msl, ↓z_len_str, ↓z_load1, ↓z_fa, ↓z_fa_ref, ↓z_callF, ↓z_andK, ↓z_orK, ↓z_and1, ↓z_and2, ↓z_and3, ↓z_and4, ↓z_and5, ↓z_and6, ↓z_and7, ↓z_and8, ↓z_and9, ↓z_and10, ↓z_and11, ↓z_and12, ↓z_or1, ↓z_or2, ↓z_or3, ↓z_or4, ↓z_or5, ↓z_or6, ↓z_or7, ↓z_or8, ↓z_or9, ↓z_or10, ↓z_or11, ↓z_or12, ↓z_add, ↓z_sub, ↓z_mul, ↓z_eql, ↓z_neq, ↓z_lss, ↓z_leq, ↓z_gtr, ↓z_geq, ↓z_not, ↓z_neg, ↓z_fin_int, ↓z_fin_bool, ↓z_fin_str, ↓z_ent_int, ↓z_ent_bool, ↓z_ent_str, ↓z_stn, ↓z_ldnn, ↓z_ldn0, ↓z_ldn1, ↓z_ldn2, ↓z_ldn3, ↓z_ldn4, ↓z_ldn5, ↓z_ldn6, ↓z_ldn7, ↓z_ldn8, List.drop_zero, List.drop_succ_cons, List.cons_append, List.nil_append, decide_eq_true_eq, decide_eq_false_iff_not, ite_not, ↓reduceIte, pub_agg, pub_int, pub_bool, pub_str, pub_fn, pub_vptr, pub_nilp, Nat.zero_add, List.length_cons, List.length_nil, Nat.reduceAdd, List.all_cons, List.all_nil, isCell_int, isCell_bool, isCell_str, isCell_sl, Bool.and_self, ↓z_loadn, Nat.reduceLeDiff, Nat.le_refl, List.take_succ_cons, List.take_zero, h, decide_false, Bool.false_eq_true]
    rw [List.drop_of_length_le (by omega)]
    simp
    exact hR S hS
  | succ n ih =>
    intro i hi S hS
    rw [f52_l13_eq _ (PP_ok _ _ _)]
    have h : (i : Int) < (v.length : Int) := by omega
    have ha : i < v.length := by omega
    have ea : (v.map I)[i]? = some (I v[i]) := by simp [ha]
    have hw : IntKind.wrap .i64 ((i : Int) + 1) = ((i + 1 : Nat) : Int) := wrap_succ i (by omega)
    simp -implicitDefEqProofs only [↓z_ret, ↓z_val, ↓z_pick, ↓z_cond, ↓z_boxRo_agg, ↓z_boxRo_int, ↓z_boxRo_bool, ↓z_boxRo_str, ↓z_boxRo_sl, ↓z_boxRo_fn, ↓z_boxRo_vptr, ↓z_boxRo_ref, ↓z_len_sl, ↓z_len_msl, ↓z_len_str, ↓z_load1, ↓z_fa, ↓z_fa_ref, ↓z_callF, ↓z_andK, ↓z_orK, ↓z_and1, ↓z_and2, ↓z_and3, ↓z_and4, ↓z_and5, ↓z_and6, ↓z_and7, ↓z_and8, ↓z_and9, ↓z_and10, ↓z_and11, ↓z_and12, ↓z_or1, ↓z_or2, ↓z_or3, ↓z_or4, ↓z_or5, ↓z_or6, ↓z_or7, ↓z_or8, ↓z_or9, ↓z_or10, ↓z_or11, ↓z_or12, ↓z_add, ↓z_sub, ↓z_mul, ↓z_eql, ↓z_neq, ↓z_lss, ↓z_leq, ↓z_gtr, ↓z_geq, ↓z_not, ↓z_neg, ↓z_fin_int, ↓z_fin_bool, ↓z_fin_str, ↓z_ent_int, ↓z_ent_bool, ↓z_ent_str, ↓z_stn, ↓z_ldnn, ↓z_ldn0, ↓z_ldn1, ↓z_ldn2, ↓z_ldn3, ↓z_ldn4, ↓z_ldn5, ↓z_ldn6, ↓z_ldn7, ↓z_ldn8, List.drop_zero, List.drop_succ_cons, List.cons_append, List.nil_append, decide_eq_true_eq, decide_eq_false_iff_not, ite_not, ↓reduceIte, pub_agg, pub_int, pub_bool, pub_str, pub_fn, pub_vptr, pub_nilp, Nat.zero_add, List.length_cons, List.length_nil, Nat.reduceAdd, List.all_cons, List.all_nil, isCell_int, isCell_bool, isCell_str, isCell_sl, Bool.and_self, ↓z_loadn, Nat.reduceLeDiff, Nat.le_refl, List.take_succ_cons, List.take_zero, h, decide_true, if_true, f52_j14_eq _ (PP_ok _ _ _), f52_j15_eq _ (PP_ok _ _ _), z_idx _ _ _ _ _ _ ea, AV.cells, Prog.cs, List.length_map, hw, z_finC_int hS]
    have := ih (i + 1) (by omega) S hS
    simp -implicitDefEqProofs only [Prog.cs] at this
    rw [this, List.drop_eq_getElem_cons ha]
    simp -implicitDefEqProofs only [List.all_cons, inReg]
    by_cases h1 : v[i] < 0
    · have : ¬ (0 ≤ v[i]) := by omega
      simp [h1, this]
    · by_cases h2 : (p.ins.length : Int) ≤ v[i]
      · have : ¬ (v[i] < (p.ins.length : Int)) := by omega
        simp [h1, h2, this]
      · have h1' : 0 ≤ v[i] := by omega
        have h2' : v[i] < (p.ins.length : Int) := by omega
        simp [h1, h2, h1', h2', inReg]

theorem f52_l10_ok (p : Prog) (s : St) (hv : p.vals.length ≤ 9223372036854775807) (hvv : ∀ v, v ∈ p.vals → v.1.length ≤ 9223372036854775807) : ∀ (n i : Nat), i + n = p.vals.length → ∀ (S : St), Child s S →
    f52_l10 (PP T1 G X) (.vptr p.cs) (.sl 1 (p.vals.map fun v => sl1 v.1 v.2) p.gv) (I p.vals.length) (.int .i64 (i : Int)) S = .ok (I (if ((p.vals.drop i).all fun v => okVal p.ins.length v.1) = true then 0 else 3)) s := by
  intro n
  induction n with
  | zero =>
    intro i hi S hS
    rw [f52_l10_eq _ (PP_ok _ _ _)]
    have h : ¬ ((i : Int) < (p.vals.length : Int)) := by omega
    simp -implicitDefEqProofs only [↓z_ret, ↓z_val, ↓z_pick, ↓z_cond, ↓z_boxRo_agg, ↓z_boxRo_int, ↓z_boxRo_bool, ↓z_boxRo_str, ↓z_boxRo_sl, ↓z_boxRo_fn, ↓z_boxRo_vptr, ↓z_boxRo_ref, ↓z_len_sl, ↓z_len_msl, ↓z_len_str, ↓z_load1, ↓z_fa, ↓z_fa_ref, ↓z_callF, ↓z_andK, ↓z_orK, ↓z_and1, ↓z_and2, ↓z_and3, ↓z_and4, ↓z_and5, ↓z_and6, ↓z_and7, ↓z_and8, ↓z_and9, ↓z_and10, ↓z_and11, ↓z_and12, ↓z_or1, ↓z_or2, ↓z_or3, ↓z_or4, ↓z_or5, ↓z_or6, ↓z_or7, ↓z_or8, ↓z_or9, ↓z_or10, ↓z_or11, ↓z_or12, ↓z_add, ↓z_sub, ↓z_mul, ↓z_eql, ↓z_neq, ↓z_lss, ↓z_leq, ↓z_gtr, ↓z_geq, ↓z_not, ↓z_neg, ↓z_fin_int, ↓z_fin_bool, ↓z_fin_str, ↓z_ent_int, ↓z_ent_bool, ↓z_ent_str, ↓z_stn, ↓z_ldnn, ↓z_ldn0, ↓z_ldn1, ↓z_ldn2, ↓z_ldn3, ↓z_ldn4, ↓z_ldn5, ↓z_ldn6, ↓z_ldn7, ↓z_ldn8, List.drop_zero, List.drop_succ_cons, List.cons_append, List.nil_append, decide_eq_true_eq, decide_eq_false_iff_not, ite_not, ↓reduceIte, pub_agg, pub_int, pub_bool, pub_str, pub_fn, pub_vptr, pub_nilp, Nat.zero_add, List.length_cons, List.length_nil, Nat.reduceAdd, List.all_cons, List.all_nil, isCell_int, isCell_bool, isCell_str, isCell_sl, Bool.and_self, ↓z_loadn, Nat.reduceLeDiff, Nat.le_refl, List.take_succ_cons, List.take_zero, h, decide_false, Bool.false_eq_true, f52_j17_eq _ (PP_ok _ _ _), z_finC_int hS]
    rw [List.drop_of_length_le (by omega)]
    simp
  | succ n ih =>
    intro i hi S hS
    rw [f52_l10_eq _ (PP_ok _ _ _)]
    have h : (i : Int) < (p.vals.length : Int) := by omega
    have ha : i < p.vals.length := by omega
    have ea : (p.vals.map fun v => sl1 v.1 v.2)[i]? = some (sl1 p.vals[i].1 p.vals[i].2) := by simp [ha]
    have hw : IntKind.wrap .i64 ((i : Int) + 1) = ((i + 1 : Nat) : Int) := wrap_succ i (by omega)
    have hl := hvv p.vals[i] (List.getElem_mem ha)
    have key := fun S hS => f52_l13_ok G X p p.vals[i].1 s p.vals[i].2 (.ok (I (if ((p.vals.drop (i + 1)).all fun v => okVal p.ins.length v.1) = true then 0 else 3)) s) (.sl 1 (p.vals.map fun v => sl1 v.1 v.2) p.gv) p.vals.length i hl (fun S hS => by
      rw [f52_j16_eq _ (PP_ok _ _ _)]
      simp -implicitDefEqProofs only [↓z_ret, ↓z_val, ↓z_pick, ↓z_cond, ↓z_boxRo_agg, ↓z_boxRo_int, ↓z_boxRo_bool, ↓z_boxRo_str, ↓z_boxRo_sl, ↓z_boxRo_fn, ↓z_boxRo_vptr, ↓z_boxRo_ref, ↓z_len_sl, ↓z_len_msl, ↓z_len_str, ↓z_load1, ↓z_fa, ↓z_fa_ref, ↓z_callF, ↓z_andK, ↓z_orK, ↓z_and1, ↓z_and2, ↓z_and3, ↓z_and4, ↓z_and5, ↓z_and6, ↓z_and7, ↓z_and8, ↓z_and9, ↓z_and10, ↓z_and11, ↓z_and12, ↓z_or1, ↓z_or2, ↓z_or3, ↓z_or4, ↓z_or5, ↓z_or6, ↓z_or7, ↓z_or8, ↓z_or9, ↓z_or10, ↓z_or11, ↓z_or12, ↓z_add, ↓z_sub, ↓z_mul, ↓z_eql, ↓z_neq, ↓z_lss, ↓z_leq, ↓z_gtr, ↓z_geq, ↓z_not, ↓z_neg, ↓z_fin_int, ↓z_fin_bool, ↓z_fin_str, ↓z_ent_int, ↓z_ent_bool, ↓z_ent_str, ↓z_stn, ↓z_ldnn, ↓z_ldn0, ↓z_ldn1, ↓z_ldn2, ↓z_ldn3, ↓z_ldn4, ↓z_ldn5, ↓z_ldn6, ↓z_ldn7, ↓z_ldn8, List.drop_zero, List.drop_succ_cons, List.cons_append, List.nil_append, decide_eq_true_eq, decide_eq_false_iff_not, ite_not, ↓reduceIte, pub_agg, pub_int, pub_bool, pub_str, pub_fn, pub_vptr, pub_nilp, Nat.zero_add, List.length_cons, List.length_nil, Nat.reduceAdd, List.all_cons, List.all_nil, isCell_int, isCell_bool, isCell_str, isCell_sl, Bool.and_self, ↓z_loadn, Nat.reduceLeDiff, Nat.le_refl, List.take_succ_cons, List.take_zero, hw]
      exact ih (i + 1) (by omega) S hS) p.vals[i].1.length 0 (by omega) S hS
    simp -implicitDefEqProofs only [Int.natCast_zero, List.drop_zero] at key
    simp -implicitDefEqProofs only [↓z_ret, ↓z_val, ↓z_pick, ↓z_cond, ↓z_boxRo_agg, ↓z_boxRo_int, ↓z_boxRo_bool, ↓z_boxRo_str, ↓z_boxRo_sl, ↓z_boxRo_fn, ↓z_boxRo_vptr, ↓z_boxRo_ref, ↓z_len_sl, ↓z_len_msl, ↓z_len_str, ↓z_load1, ↓z_fa, ↓z_fa_ref, ↓z_callF, ↓z_andK, ↓z_orK, ↓z_and1, ↓z_and2, ↓z_and3, ↓z_and4, ↓z_and5, ↓z_and6, ↓z_and7, ↓z_and8, ↓z_and9, ↓z_and10, ↓z_and11, ↓z_and12, ↓z_or1, ↓z_or2, ↓z_or3, ↓z_or4, ↓z_or5, ↓z_or6, ↓z_or7, ↓z_or8, ↓z_or9, ↓z_or10, ↓z_or11, ↓z_or12, ↓z_add, ↓z_sub, ↓z_mul, ↓z_eql, ↓z_neq, ↓z_lss, ↓z_leq, ↓z_gtr, ↓z_geq, ↓z_not, ↓z_neg, ↓z_fin_int, ↓z_fin_bool, ↓z_fin_str, ↓z_ent_int, ↓z_ent_bool, ↓z_ent_str, ↓z_stn, ↓z_ldnn, ↓z_ldn0, ↓z_ldn1, ↓z_ldn2, ↓z_ldn3, ↓z_ldn4, ↓z_ldn5, ↓z_ldn6, ↓z_ldn7, ↓z_ldn8, List.drop_zero, List.drop_succ_cons, List.cons_append, List.nil_append, decide_eq_true_eq, decide_eq_false_iff_not, ite_not, ↓reduceIte, pub_agg, pub_int, pub_bool, pub_str, pub_fn, pub_vptr, pub_nilp, Nat.zero_add, List.length_cons, List.length_nil, Nat.reduceAdd, List.all_cons, List.all_nil, isCell_int, isCell_bool, isCell_str, isCell_sl, Bool.and_self, ↓z_loadn, Nat.reduceLeDiff, Nat.le_refl, List.take_succ_cons, List.take_zero, h, decide_true, if_true, f52_j11_eq _ (PP_ok _ _ _), f52_j12_eq _ (PP_ok _ _ _), z_idx _ _ _ _ _ _ ea, AV.cells, List.length_map, z_finC_int hS]
    simp -implicitDefEqProofs only [key S hS]
    rw [List.drop_eq_getElem_cons ha]
    rw [List.all_cons, show okVal p.ins.length p.vals[i].1 = (decide (p.vals[i].1.length = 3 ∨ p.vals[i].1.length = 7) && p.vals[i].1.all (inReg p.ins.length)) from rfl]
    generalize ((p.vals.drop (i + 1)).all fun v => okVal p.ins.length v.1) = Q
    by_cases h3 : p.vals[i].1.length = 3
    · by_cases hall : p.vals[i].1.all (inReg p.ins.length) = true <;> simp [h3, hall]
    · by_cases h7 : p.vals[i].1.length = 7
      · by_cases hall : p.vals[i].1.all (inReg p.ins.length) = true <;> simp [h7, hall]
      · have e3 : ¬ (p.vals[i].1.length : Int) = 3 := by omega
        have e7 : ¬ (p.vals[i].1.length : Int) = 7 := by omega
        simp [h3, h7, e3, e7]

/-- The instructions' loop. -/
theorem f52_l2_ok (p : Prog) (s : St) (h8 : p.ins.length ≤ 8192) (h5 : p.roots.length ≤ 5) (R : Res) (hR : ∀ S, Child s S → f52_j9 (PP T1 G X) (.vptr p.cs) S = R) : ∀ (n i nx : Nat), i + n = p.ins.length → nx ≤ p.roots.length → ∀ (S : St), Child s S →
    f52_l2 (PP T1 G X) (.vptr p.cs) (.int .i64 (nx : Int)) (.sl 3 (p.ins.map Ins.enc) p.gi) (I p.ins.length) (.int .i64 (i : Int)) S = if scan p.roots p.inputs (p.ins.drop i) i nx = some p.roots.length then R else .ok (I 3) s := by
  intro n
  induction n with
  | zero =>
    intro i nx hi hnx S hS
    rw [f52_l2_eq _ (PP_ok _ _ _)]
    have h : ¬ ((i : Int) < (p.ins.length : Int)) := by omega
    simp -implicitDefEqProofs only [↓z_ret, ↓z_val, ↓z_pick, ↓z_cond, ↓z_boxRo_agg, ↓z_boxRo_int, ↓z_boxRo_bool, ↓z_boxRo_str, ↓z_boxRo_sl, ↓z_boxRo_fn, ↓z_boxRo_vptr, ↓z_boxRo_ref, ↓z_len_sl, ↓z_len_msl, ↓z_len_str, ↓z_load1, ↓z_fa, ↓z_fa_ref, ↓z_callF, ↓z_andK, ↓z_orK, ↓z_and1, ↓z_and2, ↓z_and3, ↓z_and4, ↓z_and5, ↓z_and6, ↓z_and7, ↓z_and8, ↓z_and9, ↓z_and10, ↓z_and11, ↓z_and12, ↓z_or1, ↓z_or2, ↓z_or3, ↓z_or4, ↓z_or5, ↓z_or6, ↓z_or7, ↓z_or8, ↓z_or9, ↓z_or10, ↓z_or11, ↓z_or12, ↓z_add, ↓z_sub, ↓z_mul, ↓z_eql, ↓z_neq, ↓z_lss, ↓z_leq, ↓z_gtr, ↓z_geq, ↓z_not, ↓z_neg, ↓z_fin_int, ↓z_fin_bool, ↓z_fin_str, ↓z_ent_int, ↓z_ent_bool, ↓z_ent_str, ↓z_stn, ↓z_ldnn, ↓z_ldn0, ↓z_ldn1, ↓z_ldn2, ↓z_ldn3, ↓z_ldn4, ↓z_ldn5, ↓z_ldn6, ↓z_ldn7, ↓z_ldn8, List.drop_zero, List.drop_succ_cons, List.cons_append, List.nil_append, decide_eq_true_eq, decide_eq_false_iff_not, ite_not, ↓reduceIte, pub_agg, pub_int, pub_bool, pub_str, pub_fn, pub_vptr, pub_nilp, Nat.zero_add, List.length_cons, List.length_nil, Nat.reduceAdd, List.all_cons, List.all_nil, isCell_int, isCell_bool, isCell_str, isCell_sl, Bool.and_self, ↓z_loadn, Nat.reduceLeDiff, Nat.le_refl, List.take_succ_cons, List.take_zero, h, decide_false, Bool.false_eq_true, f52_j8_eq _ (PP_ok _ _ _), Prog.cs, List.length_map, z_finC_int hS]
    have := hR S hS
    simp -implicitDefEqProofs only [Prog.cs] at this
    rw [this, List.drop_of_length_le (by omega)]
    by_cases e : nx = p.roots.length
    · simp [scan, e]
    · have e' : ¬ (nx : Int) = (p.roots.length : Int) := by omega
      simp [scan, e, e']
  | succ n ih =>
    intro i nx hi hnx S hS
    rw [f52_l2_eq _ (PP_ok _ _ _)]
    have h : (i : Int) < (p.ins.length : Int) := by omega
    have ha : i < p.ins.length := by omega
    have ea : (p.ins.map Ins.enc)[i]? = some p.ins[i].enc := by simp [ha]
    have hw : IntKind.wrap .i64 ((i : Int) + 1) = ((i + 1 : Nat) : Int) := wrap_succ i (by omega)
    have hw2 : IntKind.wrap .i64 ((nx : Int) + 1) = ((nx + 1 : Nat) : Int) := wrap_succ nx (by omega)
    have hc : ∀ S, callω T1 G X 88 [.agg [.int .i64 p.ins[i].op, .int .i64 p.ins[i].a, .int .i64 p.ins[i].b], .int .i64 (i : Int), .int .i64 p.inputs] S = .ok (.bool (okIns p.ins[i] i p.inputs)) S := fun S => f88_ok G X p.ins[i] i p.inputs S
    rw [List.drop_eq_getElem_cons ha]
    generalize hx : p.ins[i] = x at *
    simp -implicitDefEqProofs only [↓z_ret, ↓z_val, ↓z_pick, ↓z_cond, ↓z_boxRo_agg, ↓z_boxRo_int, ↓z_boxRo_bool, ↓z_boxRo_str, ↓z_boxRo_sl, ↓z_boxRo_fn, ↓z_boxRo_vptr, ↓z_boxRo_ref, ↓z_len_sl, ↓z_len_msl, ↓z_len_str, ↓z_load1, ↓z_fa, ↓z_fa_ref, ↓z_callF, ↓z_andK, ↓z_orK, ↓z_and1, ↓z_and2, ↓z_and3, ↓z_and4, ↓z_and5, ↓z_and6, ↓z_and7, ↓z_and8, ↓z_and9, ↓z_and10, ↓z_and11, ↓z_and12, ↓z_or1, ↓z_or2, ↓z_or3, ↓z_or4, ↓z_or5, ↓z_or6, ↓z_or7, ↓z_or8, ↓z_or9, ↓z_or10, ↓z_or11, ↓z_or12, ↓z_add, ↓z_sub, ↓z_mul, ↓z_eql, ↓z_neq, ↓z_lss, ↓z_leq, ↓z_gtr, ↓z_geq, ↓z_not, ↓z_neg, ↓z_fin_int, ↓z_fin_bool, ↓z_fin_str, ↓z_ent_int, ↓z_ent_bool, ↓z_ent_str, ↓z_stn, ↓z_ldnn, ↓z_ldn0, ↓z_ldn1, ↓z_ldn2, ↓z_ldn3, ↓z_ldn4, ↓z_ldn5, ↓z_ldn6, ↓z_ldn7, ↓z_ldn8, List.drop_zero, List.drop_succ_cons, List.cons_append, List.nil_append, decide_eq_true_eq, decide_eq_false_iff_not, ite_not, ↓reduceIte, pub_agg, pub_int, pub_bool, pub_str, pub_fn, pub_vptr, pub_nilp, Nat.zero_add, List.length_cons, List.length_nil, Nat.reduceAdd, List.all_cons, List.all_nil, isCell_int, isCell_bool, isCell_str, isCell_sl, Bool.and_self, ↓z_loadn, Nat.reduceLeDiff, Nat.le_refl, List.take_succ_cons, List.take_zero, h, decide_true, if_true, f52_j3_eq _ (PP_ok _ _ _), f52_j4_eq _ (PP_ok _ _ _), f52_j5_eq _ (PP_ok _ _ _), f52_j6_eq _ (PP_ok _ _ _), f52_j7_eq _ (PP_ok _ _ _), z_idx _ _ _ _ _ _ ea, Ins.enc, Ins.cs, AV.cells, Prog.cs, z_call0 (hc _), z_finC_int (hS.new _), hw, hw2]
    have ih' := fun nx hnx o => ih (i + 1) nx (by omega) hnx (S.new o) (hS.new o)
    simp -implicitDefEqProofs only [Prog.cs] at ih'
    simp -implicitDefEqProofs only [scan]
    by_cases hok : okIns x i p.inputs = true
    · simp -implicitDefEqProofs only [hok, Bool.not_true, Bool.false_eq_true, ↓reduceIte]
      by_cases h6 : x.op = 6
      · simp -implicitDefEqProofs only [h6, ↓reduceIte, List.length_map]
        by_cases hr : nx = p.roots.length
        · have e1 : (nx : Int) = (p.roots.length : Int) := by omega
          have e2 : p.roots[nx]? = none := List.getElem?_eq_none (by omega)
          simp [e1, e2]
        · have e1 : ¬ (nx : Int) = (p.roots.length : Int) := by omega
          have hlt : nx < p.roots.length := by omega
          have er : (p.roots.map I)[nx]? = some (I p.roots[nx]) := by simp [hlt]
          have er2 : p.roots[nx]? = some p.roots[nx] := List.getElem?_eq_getElem hlt
          simp -implicitDefEqProofs only [e1, ↓z_ret, ↓z_val, ↓z_pick, ↓z_cond, ↓z_boxRo_agg, ↓z_boxRo_int, ↓z_boxRo_bool, ↓z_boxRo_str, ↓z_boxRo_sl, ↓z_boxRo_fn, ↓z_boxRo_vptr, ↓z_boxRo_ref, ↓z_len_sl, ↓z_len_msl, ↓z_len_str, ↓z_load1, ↓z_fa, ↓z_fa_ref, ↓z_callF, ↓z_andK, ↓z_orK, ↓z_and1, ↓z_and2, ↓z_and3, ↓z_and4, ↓z_and5, ↓z_and6, ↓z_and7, ↓z_and8, ↓z_and9, ↓z_and10, ↓z_and11, ↓z_and12, ↓z_or1, ↓z_or2, ↓z_or3, ↓z_or4, ↓z_or5, ↓z_or6, ↓z_or7, ↓z_or8, ↓z_or9, ↓z_or10, ↓z_or11, ↓z_or12, ↓z_add, ↓z_sub, ↓z_mul, ↓z_eql, ↓z_neq, ↓z_lss, ↓z_leq, ↓z_gtr, ↓z_geq, ↓z_not, ↓z_neg, ↓z_fin_int, ↓z_fin_bool, ↓z_fin_str, ↓z_ent_int, ↓z_ent_bool, ↓z_ent_str, ↓z_stn, ↓z_ldnn, ↓z_ldn0, ↓z_ldn1, ↓z_ldn2, ↓z_ldn3, ↓z_ldn4, ↓z_ldn5, ↓z_ldn6, ↓z_ldn7, ↓z_ldn8, List.drop_zero, List.drop_succ_cons, List.cons_append, List.nil_append, decide_eq_true_eq, decide_eq_false_iff_not, ite_not, ↓reduceIte, pub_agg, pub_int, pub_bool, pub_str, pub_fn, pub_vptr, pub_nilp, Nat.zero_add, List.length_cons, List.length_nil, Nat.reduceAdd, List.all_cons, List.all_nil, isCell_int, isCell_bool, isCell_str, isCell_sl, Bool.and_self, ↓z_loadn, Nat.reduceLeDiff, Nat.le_refl, List.take_succ_cons, List.take_zero, z_idx _ _ _ _ _ _ er, AV.cells, z_finC_int (hS.new _), er2]
          by_cases hri : p.roots[nx] = (i : Int)
          · simp -implicitDefEqProofs only [hri, not_true_eq_false, ↓reduceIte, ih' (nx + 1) (by omega)]
          · simp [hri]
      · simp -implicitDefEqProofs only [h6, ↓reduceIte, ih' nx hnx]
    · simp [hok]
theorem f52_ok (p : Prog) (s : St) (hv : p.vals.length ≤ 9223372036854775807) (hvv : ∀ v, v ∈ p.vals → v.1.length ≤ 9223372036854775807) : callω T1 G X 52 [p.enc] s = .ok (I p.check) s := by
  rw [f52_call, f52_eq]
  simp -implicitDefEqProofs only [Prog.enc, Prog.cs, ↓z_ret, ↓z_val, ↓z_pick, ↓z_cond, ↓z_boxRo_agg, ↓z_boxRo_int, ↓z_boxRo_bool, ↓z_boxRo_str, ↓z_boxRo_sl, ↓z_boxRo_fn, ↓z_boxRo_vptr, ↓z_boxRo_ref, ↓z_len_sl, ↓z_len_msl, ↓z_len_str, ↓z_load1, ↓z_fa, ↓z_fa_ref, ↓z_callF, ↓z_andK, ↓z_orK, ↓z_and1, ↓z_and2, ↓z_and3, ↓z_and4, ↓z_and5, ↓z_and6, ↓z_and7, ↓z_and8, ↓z_and9, ↓z_and10, ↓z_and11, ↓z_and12, ↓z_or1, ↓z_or2, ↓z_or3, ↓z_or4, ↓z_or5, ↓z_or6, ↓z_or7, ↓z_or8, ↓z_or9, ↓z_or10, ↓z_or11, ↓z_or12, ↓z_add, ↓z_sub, ↓z_mul, ↓z_eql, ↓z_neq, ↓z_lss, ↓z_leq, ↓z_gtr, ↓z_geq, ↓z_not, ↓z_neg, ↓z_fin_int, ↓z_fin_bool, ↓z_fin_str, ↓z_ent_int, ↓z_ent_bool, ↓z_ent_str, ↓z_stn, ↓z_ldnn, ↓z_ldn0, ↓z_ldn1, ↓z_ldn2, ↓z_ldn3, ↓z_ldn4, ↓z_ldn5, ↓z_ldn6, ↓z_ldn7, ↓z_ldn8, List.drop_zero, List.drop_succ_cons, List.cons_append, List.nil_append, decide_eq_true_eq, decide_eq_false_iff_not, ite_not, ↓reduceIte, pub_agg, pub_int, pub_bool, pub_str, pub_fn, pub_vptr, pub_nilp, Nat.zero_add, List.length_cons, List.length_nil, Nat.reduceAdd, List.all_cons, List.all_nil, isCell_int, isCell_bool, isCell_str, isCell_sl, Bool.and_self, ↓z_loadn, Nat.reduceLeDiff, Nat.le_refl, List.take_succ_cons, List.take_zero, List.length_map, f52_j1_eq _ (PP_ok _ _ _)]
  have h10 := fun S hS => f52_l10_ok G X p s hv hvv p.vals.length 0 (by omega) S hS
  simp -implicitDefEqProofs only [Int.natCast_zero, List.drop_zero, Prog.cs] at h10
  by_cases c1 : p.inputs < 0
  · simp [c1, Prog.check]
  by_cases c2 : 20 < p.inputs
  · simp [c1, c2, Prog.check]
  by_cases c3 : 8192 < p.ins.length
  · have c3' : (8192 : Int) < (p.ins.length : Int) := by omega
    simp [c1, c2, c3, c3', Prog.check]
  by_cases c4 : 5 < p.roots.length
  · have c4' : (5 : Int) < (p.roots.length : Int) := by omega
    simp [c1, c2, c3, c4, c4', Prog.check]
  have c3' : ¬ (8192 : Int) < (p.ins.length : Int) := by omega
  have c4' : ¬ (5 : Int) < (p.roots.length : Int) := by omega
  have h2 := f52_l2_ok G X p s (by omega) (by omega) (.ok (I (if (p.vals.all fun v => okVal p.ins.length v.1) = true then 0 else 3)) s) (fun S hS => by
    rw [f52_j9_eq _ (PP_ok _ _ _)]
    simp -implicitDefEqProofs only [Prog.cs, ↓z_ret, ↓z_val, ↓z_pick, ↓z_cond, ↓z_boxRo_agg, ↓z_boxRo_int, ↓z_boxRo_bool, ↓z_boxRo_str, ↓z_boxRo_sl, ↓z_boxRo_fn, ↓z_boxRo_vptr, ↓z_boxRo_ref, ↓z_len_sl, ↓z_len_msl, ↓z_len_str, ↓z_load1, ↓z_fa, ↓z_fa_ref, ↓z_callF, ↓z_andK, ↓z_orK, ↓z_and1, ↓z_and2, ↓z_and3, ↓z_and4, ↓z_and5, ↓z_and6, ↓z_and7, ↓z_and8, ↓z_and9, ↓z_and10, ↓z_and11, ↓z_and12, ↓z_or1, ↓z_or2, ↓z_or3, ↓z_or4, ↓z_or5, ↓z_or6, ↓z_or7, ↓z_or8, ↓z_or9, ↓z_or10, ↓z_or11, ↓z_or12, ↓z_add, ↓z_sub, ↓z_mul, ↓z_eql, ↓z_neq, ↓z_lss, ↓z_leq, ↓z_gtr, ↓z_geq, ↓z_not, ↓z_neg, ↓z_fin_int, ↓z_fin_bool, ↓z_fin_str, ↓z_ent_int, ↓z_ent_bool, ↓z_ent_str, ↓z_stn, ↓z_ldnn, ↓z_ldn0, ↓z_ldn1, ↓z_ldn2, ↓z_ldn3, ↓z_ldn4, ↓z_ldn5, ↓z_ldn6, ↓z_ldn7, ↓z_ldn8, List.drop_zero, List.drop_succ_cons, List.cons_append, List.nil_append, decide_eq_true_eq, decide_eq_false_iff_not, ite_not, ↓reduceIte, pub_agg, pub_int, pub_bool, pub_str, pub_fn, pub_vptr, pub_nilp, Nat.zero_add, List.length_cons, List.length_nil, Nat.reduceAdd, List.all_cons, List.all_nil, isCell_int, isCell_bool, isCell_str, isCell_sl, Bool.and_self, ↓z_loadn, Nat.reduceLeDiff, Nat.le_refl, List.take_succ_cons, List.take_zero, List.length_map, h10 S hS]) p.ins.length 0 0 (by omega) (by omega) s.enter (.enter s)
  simp -implicitDefEqProofs only [Int.natCast_zero, List.drop_zero, Prog.cs] at h2
  simp -implicitDefEqProofs only [c1, c2, c3', c4', if_false, h2, Prog.check, c3, c4, or_self]
  split
  · rename_i e
    simp -implicitDefEqProofs only [e, true_and]
  · rename_i e
    simp -implicitDefEqProofs only [e, false_and, if_false]
end Go.AbZ
end
section
namespace Go.AbZ
open Go.Ab
variable (G : Nat → AV) (X : Nat → List AV → St → Res)
set_option linter.unusedSimpArgs false
set_option linter.unusedVariables false
theorem f16_l12_ok (p : Prog) (v : List Int) (s : St) (g : Gr) (R : Res) (c6 : Int) (hv : v.length ≤ 9223372036854775807) (hR : ∀ (S : St), Child s S → f16_j15 (PP T1 G X) (.vptr p.cs) (I c6) S = R) : ∀ (n i : Nat), i + n = v.length → ∀ (S : St), Child s S →
    f16_l12 (PP T1 G X) (.vptr p.cs) (I c6) (.sl 1 (v.map I) g) (.int .i64 (i : Int)) S = (if (v.drop i).all (inReg p.ins.length) = true then R else .ok (I 3) s) := by
  intro n
  induction n with
  | zero =>
    intro i hi S hS
    rw [f16_l12_eq _ (PP_ok _ _ _)]
    have h : ¬ ((i : Int) < (v.length : Int)) := by omega
    simp -implicitDefEqProofs only [↓z_ret, ↓z_val, ↓z_pick, ↓z_cond, ↓z_boxRo_agg, ↓z_boxRo_int, ↓z_boxRo_bool, ↓z_boxRo_str, ↓z_boxRo_sl, ↓z_boxRo_fn, ↓z_boxRo_vptr, ↓z_boxRo_ref, ↓z_len_sl, ↓z_len_msl, ↓z_len_str, ↓z_load1, ↓z_fa, ↓z_fa_ref, ↓z_callF, ↓z_andK, ↓z_orK, ↓z_and1, ↓z_and2, ↓z_and3, ↓z_and4, ↓z_and5, ↓z_and6, ↓z_and7, ↓z_and8, ↓z_and9, ↓z_and10, ↓z_and11, ↓z_and12, ↓z_or1, ↓z_or2, ↓z_or3, ↓z_or4, ↓z_or5, ↓z_or6, ↓z_or7, ↓z_or8, ↓z_or9, ↓z_or10, ↓z_or11, ↓z_or12, ↓z_add, ↓z_sub, ↓z_mul, ↓z_eql, ↓z_neq, ↓z_lss, ↓z_leq, ↓z_gtr, ↓z_geq, ↓z_not, ↓z_neg, ↓z_fin_int, ↓z_fin_bool, ↓z_fin_str, ↓z_ent_int, ↓z_ent_bool, ↓z_ent_str, ↓z_stn, ↓z_ldnn, ↓z_ldn0, ↓z_ldn1, ↓z_ldn2, ↓z_ldn3, ↓z_ldn4, ↓z_ldn5, ↓z_ldn6, ↓z_ldn7, ↓z_ldn8, List.drop_zero, List.drop_succ_cons, List.cons_append, List.nil_append, decide_eq_true_eq, decide_eq_false_iff_not, ite_not, ↓reduceIte, pub_agg, pub_int, pub_bool, pub_str, pub_fn, pub_vptr, pub_nilp, Nat.zero_add, List.length_cons, List.length_nil, Nat.reduceAdd, List.all_cons, List.all_nil, isCell_int, isCell_bool, isCell_str, isCell_sl, Bool.and_self, ↓z_loadn, Nat.reduceLeDiff, Nat.le_refl, List.take_succ_cons, List.take_zero, List.length_map, h, decide_false, Bool.false_eq_true]
    rw [List.drop_of_length_le (by omega)]
    simp
    exact hR S hS
  | succ n ih =>
    intro i hi S hS
    rw [f16_l12_eq _ (PP_ok _ _ _)]
    have h : (i : Int) < (v.length : Int) := by omega
    have ha : i < v.length := by omega
    have ea : (v.map I)[i]? = some (I v[i]) := by simp [ha]
    have hw : IntKind.wrap .i64 ((i : Int) + 1) = ((i + 1 : Nat) : Int) := wrap_succ i (by omega)
    have := ih (i + 1) (by omega) S hS
    simp -implicitDefEqProofs only [Prog.cs] at this
    simp -implicitDefEqProofs only [↓z_ret, ↓z_val, ↓z_pick, ↓z_cond, ↓z_boxRo_agg, ↓z_boxRo_int, ↓z_boxRo_bool, ↓z_boxRo_str, ↓z_boxRo_sl, ↓z_boxRo_fn, ↓z_boxRo_vptr, ↓z_boxRo_ref, ↓z_len_sl, ↓z_len_msl, ↓z_len_str, ↓z_load1, ↓z_fa, ↓z_fa_ref, ↓z_callF, ↓z_andK, ↓z_orK, ↓z_and1, ↓z_and2, ↓z_and3, ↓z_and4, ↓z_and5, ↓z_and6, ↓z_and7, ↓z_and8, ↓z_and9, ↓z_and10, ↓z_and11, ↓z_and12, ↓z_or1, ↓z_or2, ↓z_or3, ↓z_or4, ↓z_or5, ↓z_or6, ↓z_or7, ↓z_or8, ↓z_or9, ↓z_or10, ↓z_or11, ↓z_or12, ↓z_add, ↓z_sub, ↓z_mul, ↓z_eql, ↓z_neq, ↓z_lss, ↓z_leq, ↓z_gtr, ↓z_geq, ↓z_not, ↓z_neg, ↓z_fin_int, ↓z_fin_bool, ↓z_fin_str, ↓z_ent_int, ↓z_ent_bool, ↓z_ent_str, ↓z_stn, ↓z_ldnn, ↓z_ldn0, ↓z_ldn1, ↓z_ldn2, ↓z_ldn3, ↓z_ldn4, ↓z_ldn5, ↓z_ldn6, ↓z_ldn7, ↓z_ldn8, List.drop_zero, List.drop_succ_cons, List.cons_append, List.nil_append, decide_eq_true_eq, decide_eq_false_iff_not, ite_not, ↓reduceIte, pub_agg, pub_int, pub_bool, pub_str, pub_fn, pub_vptr, pub_nilp, Nat.zero_add, List.length_cons, List.length_nil, Nat.reduceAdd, List.all_cons, List.all_nil, isCell_int, isCell_bool, isCell_str, isCell_sl, Bool.and_self, ↓z_loadn, Nat.reduceLeDiff, Nat.le_refl, List.take_succ_cons, List.take_zero, h, decide_true, if_true, f16_j13_eq _ (PP_ok _ _ _), f16_j14_eq _ (PP_ok _ _ _), z_idx _ _ _ _ _ _ ea, AV.cells, Prog.cs, List.length_map, hw, z_finC_int hS]
    rw [this, List.drop_eq_getElem_cons ha]
    simp -implicitDefEqProofs only [List.all_cons, inReg]
    by_cases h1 : v[i] < 0
    · have : ¬ (0 ≤ v[i]) := by omega
      simp [h1, this]
    · by_cases h2 : (p.ins.length : Int) ≤ v[i]
      · have : ¬ (v[i] < (p.ins.length : Int)) := by omega
        simp [h1, h2, this]
      · have h1' : 0 ≤ v[i] := by omega
        have h2' : v[i] < (p.ins.length : Int) := by omega
        simp [h1, h2, h1', h2', inReg]

theorem f16_l9_ok (p : Prog) (s : St) (hv : p.vals.length ≤ 9223372036854775807) (hvv : ∀ v, v ∈ p.vals → v.1.length ≤ 9223372036854775807) : ∀ (n i : Nat), i + n = p.vals.length → ∀ (S : St), Child s S →
    f16_l9 (PP T1 G X) (.vptr p.cs) (.int .i64 (i : Int)) S = .ok (I (if ((p.vals.drop i).all fun v => okVal p.ins.length v.1) = true then 0 else 3)) s := by
  intro n
  induction n with
  | zero =>
    intro i hi S hS
    rw [f16_l9_eq _ (PP_ok _ _ _)]
    have h : ¬ ((i : Int) < (p.vals.length : Int)) := by omega
    simp -implicitDefEqProofs only [↓z_ret, ↓z_val, ↓z_pick, ↓z_cond, ↓z_boxRo_agg, ↓z_boxRo_int, ↓z_boxRo_bool, ↓z_boxRo_str, ↓z_boxRo_sl, ↓z_boxRo_fn, ↓z_boxRo_vptr, ↓z_boxRo_ref, ↓z_len_sl, ↓z_len_msl, ↓z_len_str, ↓z_load1, ↓z_fa, ↓z_fa_ref, ↓z_callF, ↓z_andK, ↓z_orK, ↓z_and1, ↓z_and2, ↓z_and3, ↓z_and4, ↓z_and5, ↓z_and6, ↓z_and7, ↓z_and8, ↓z_and9, ↓z_and10, ↓z_and11, ↓z_and12, ↓z_or1, ↓z_or2, ↓z_or3, ↓z_or4, ↓z_or5, ↓z_or6, ↓z_or7, ↓z_or8, ↓z_or9, ↓z_or10, ↓z_or11, ↓z_or12, ↓z_add, ↓z_sub, ↓z_mul, ↓z_eql, ↓z_neq, ↓z_lss, ↓z_leq, ↓z_gtr, ↓z_geq, ↓z_not, ↓z_neg, ↓z_fin_int, ↓z_fin_bool, ↓z_fin_str, ↓z_ent_int, ↓z_ent_bool, ↓z_ent_str, ↓z_stn, ↓z_ldnn, ↓z_ldn0, ↓z_ldn1, ↓z_ldn2, ↓z_ldn3, ↓z_ldn4, ↓z_ldn5, ↓z_ldn6, ↓z_ldn7, ↓z_ldn8, List.drop_zero, List.drop_succ_cons, List.cons_append, List.nil_append, decide_eq_true_eq, decide_eq_false_iff_not, ite_not, ↓reduceIte, pub_agg, pub_int, pub_bool, pub_str, pub_fn, pub_vptr, pub_nilp, Nat.zero_add, List.length_cons, List.length_nil, Nat.reduceAdd, List.all_cons, List.all_nil, isCell_int, isCell_bool, isCell_str, isCell_sl, Bool.and_self, ↓z_loadn, Nat.reduceLeDiff, Nat.le_refl, List.take_succ_cons, List.take_zero, Prog.cs, List.length_map, h, decide_false, Bool.false_eq_true, f16_j16_eq _ (PP_ok _ _ _), z_finC_int hS]
    rw [List.drop_of_length_le (by omega)]
    simp
  | succ n ih =>
    intro i hi S hS
    rw [f16_l9_eq _ (PP_ok _ _ _)]
    have h : (i : Int) < (p.vals.length : Int) := by omega
    have ha : i < p.vals.length := by omega
    have ea : (p.vals.map fun v => sl1 v.1 v.2)[i]? = some (sl1 p.vals[i].1 p.vals[i].2) := by simp [ha]
    have hw : IntKind.wrap .i64 ((i : Int) + 1) = ((i + 1 : Nat) : Int) := wrap_succ i (by omega)
    have hl := hvv p.vals[i] (List.getElem_mem ha)
    have key := fun S hS => f16_l12_ok G X p p.vals[i].1 s p.vals[i].2 (.ok (I (if ((p.vals.drop (i + 1)).all fun v => okVal p.ins.length v.1) = true then 0 else 3)) s) i hl (fun S hS => by
      rw [f16_j15_eq _ (PP_ok _ _ _)]
      simp -implicitDefEqProofs only [↓z_ret, ↓z_val, ↓z_pick, ↓z_cond, ↓z_boxRo_agg, ↓z_boxRo_int, ↓z_boxRo_bool, ↓z_boxRo_str, ↓z_boxRo_sl, ↓z_boxRo_fn, ↓z_boxRo_vptr, ↓z_boxRo_ref, ↓z_len_sl, ↓z_len_msl, ↓z_len_str, ↓z_load1, ↓z_fa, ↓z_fa_ref, ↓z_callF, ↓z_andK, ↓z_orK, ↓z_and1, ↓z_and2, ↓z_and3, ↓z_and4, ↓z_and5, ↓z_and6, ↓z_and7, ↓z_and8, ↓z_and9, ↓z_and10, ↓z_and11, ↓z_and12, ↓z_or1, ↓z_or2, ↓z_or3, ↓z_or4, ↓z_or5, ↓z_or6, ↓z_or7, ↓z_or8, ↓z_or9, ↓z_or10, ↓z_or11, ↓z_or12, ↓z_add, ↓z_sub, ↓z_mul, ↓z_eql, ↓z_neq, ↓z_lss, ↓z_leq, ↓z_gtr, ↓z_geq, ↓z_not, ↓z_neg, ↓z_fin_int, ↓z_fin_bool, ↓z_fin_str, ↓z_ent_int, ↓z_ent_bool, ↓z_ent_str, ↓z_stn, ↓z_ldnn, ↓z_ldn0, ↓z_ldn1, ↓z_ldn2, ↓z_ldn3, ↓z_ldn4, ↓z_ldn5, ↓z_ldn6, ↓z_ldn7, ↓z_ldn8, List.drop_zero, List.drop_succ_cons, List.cons_append, List.nil_append, decide_eq_true_eq, decide_eq_false_iff_not, ite_not, ↓reduceIte, pub_agg, pub_int, pub_bool, pub_str, pub_fn, pub_vptr, pub_nilp, Nat.zero_add, List.length_cons, List.length_nil, Nat.reduceAdd, List.all_cons, List.all_nil, isCell_int, isCell_bool, isCell_str, isCell_sl, Bool.and_self, ↓z_loadn, Nat.reduceLeDiff, Nat.le_refl, List.take_succ_cons, List.take_zero, hw]
      exact ih (i + 1) (by omega) S hS) p.vals[i].1.length 0 (by omega) S hS
    simp -implicitDefEqProofs only [Int.natCast_zero, List.drop_zero, Prog.cs] at key
    simp -implicitDefEqProofs only [↓z_ret, ↓z_val, ↓z_pick, ↓z_cond, ↓z_boxRo_agg, ↓z_boxRo_int, ↓z_boxRo_bool, ↓z_boxRo_str, ↓z_boxRo_sl, ↓z_boxRo_fn, ↓z_boxRo_vptr, ↓z_boxRo_ref, ↓z_len_sl, ↓z_len_msl, ↓z_len_str, ↓z_load1, ↓z_fa, ↓z_fa_ref, ↓z_callF, ↓z_andK, ↓z_orK, ↓z_and1, ↓z_and2, ↓z_and3, ↓z_and4, ↓z_and5, ↓z_and6, ↓z_and7, ↓z_and8, ↓z_and9, ↓z_and10, ↓z_and11, ↓z_and12, ↓z_or1, ↓z_or2, ↓z_or3, ↓z_or4, ↓z_or5, ↓z_or6, ↓z_or7, ↓z_or8, ↓z_or9, ↓z_or10, ↓z_or11, ↓z_or12, ↓z_add, ↓z_sub, ↓z_mul, ↓z_eql, ↓z_neq, ↓z_lss, ↓z_leq, ↓z_gtr, ↓z_geq, ↓z_not, ↓z_neg, ↓z_fin_int, ↓z_fin_bool, ↓z_fin_str, ↓z_ent_int, ↓z_ent_bool, ↓z_ent_str, ↓z_stn, ↓z_ldnn, ↓z_ldn0, ↓z_ldn1, ↓z_ldn2, ↓z_ldn3, ↓z_ldn4, ↓z_ldn5, ↓z_ldn6, ↓z_ldn7, ↓z_ldn8, List.drop_zero, List.drop_succ_cons, List.cons_append, List.nil_append, decide_eq_true_eq, decide_eq_false_iff_not, ite_not, ↓reduceIte, pub_agg, pub_int, pub_bool, pub_str, pub_fn, pub_vptr, pub_nilp, Nat.zero_add, List.length_cons, List.length_nil, Nat.reduceAdd, List.all_cons, List.all_nil, isCell_int, isCell_bool, isCell_str, isCell_sl, Bool.and_self, ↓z_loadn, Nat.reduceLeDiff, Nat.le_refl, List.take_succ_cons, List.take_zero, Prog.cs, List.length_map, h, decide_true, if_true, f16_j10_eq _ (PP_ok _ _ _), f16_j11_eq _ (PP_ok _ _ _), z_idx _ _ _ _ _ _ ea, AV.cells, z_finC_int hS]
    simp -implicitDefEqProofs only [key S hS]
    rw [List.drop_eq_getElem_cons ha]
    rw [List.all_cons, show okVal p.ins.length p.vals[i].1 = (decide (p.vals[i].1.length = 3 ∨ p.vals[i].1.length = 7) && p.vals[i].1.all (inReg p.ins.length)) from rfl]
    generalize ((p.vals.drop (i + 1)).all fun v => okVal p.ins.length v.1) = Q
    by_cases h3 : p.vals[i].1.length = 3
    · by_cases hall : p.vals[i].1.all (inReg p.ins.length) = true <;> simp [h3, hall]
    · by_cases h7 : p.vals[i].1.length = 7
      · by_cases hall : p.vals[i].1.all (inReg p.ins.length) = true <;> simp [h7, hall]
      · have e3 : ¬ (p.vals[i].1.length : Int) = 3 := by omega
        have e7 : ¬ (p.vals[i].1.length : Int) = 7 := by omega
        simp [h3, h7, e3, e7]

theorem f16_l2_ok (p : Prog) (s : St) (h8 : p.ins.length ≤ 8192) (h5 : p.roots.length ≤ 5) (R : Res) (hR : ∀ S, Child s S → f16_j8 (PP T1 G X) (.vptr p.cs) S = R) : ∀ (n i nx : Nat), i + n = p.ins.length → nx ≤ p.roots.length → ∀ (S : St), Child s S →
    f16_l2 (PP T1 G X) (.vptr p.cs) (.int .i64 (nx : Int)) (.int .i64 (i : Int)) S = if scan p.roots p.inputs (p.ins.drop i) i nx = some p.roots.length then R else .ok (I 3) s := by
  intro n
  induction n with
  | zero =>
    intro i nx hi hnx S hS
    rw [f16_l2_eq _ (PP_ok _ _ _)]
    have h : ¬ ((i : Int) < (p.ins.length : Int)) := by omega
    have := hR S hS
    simp -implicitDefEqProofs only [Prog.cs] at this
    simp -implicitDefEqProofs only [↓z_ret, ↓z_val, ↓z_pick, ↓z_cond, ↓z_boxRo_agg, ↓z_boxRo_int, ↓z_boxRo_bool, ↓z_boxRo_str, ↓z_boxRo_sl, ↓z_boxRo_fn, ↓z_boxRo_vptr, ↓z_boxRo_ref, ↓z_len_sl, ↓z_len_msl, ↓z_len_str, ↓z_load1, ↓z_fa, ↓z_fa_ref, ↓z_callF, ↓z_andK, ↓z_orK, ↓z_and1, ↓z_and2, ↓z_and3, ↓z_and4, ↓z_and5, ↓z_and6, ↓z_and7, ↓z_and8, ↓z_and9, ↓z_and10, ↓z_and11, ↓z_and12, ↓z_or1, ↓z_or2, ↓z_or3, ↓z_or4, ↓z_or5, ↓z_or6, ↓z_or7, ↓z_or8, ↓z_or9, ↓z_or10, ↓z_or11, ↓z_or12, ↓z_add, ↓z_sub, ↓z_mul, ↓z_eql, ↓z_neq, ↓z_lss, ↓z_leq, ↓z_gtr, ↓z_geq, ↓z_not, ↓z_neg, ↓z_fin_int, ↓z_fin_bool, ↓z_fin_str, ↓z_ent_int, ↓z_ent_bool, ↓z_ent_str, ↓z_stn, ↓z_ldnn, ↓z_ldn0, ↓z_ldn1, ↓z_ldn2, ↓z_ldn3, ↓z_ldn4, ↓z_ldn5, ↓z_ldn6, ↓z_ldn7, ↓z_ldn8, List.drop_zero, List.drop_succ_cons, List.cons_append, List.nil_append, decide_eq_true_eq, decide_eq_false_iff_not, ite_not, ↓reduceIte, pub_agg, pub_int, pub_bool, pub_str, pub_fn, pub_vptr, pub_nilp, Nat.zero_add, List.length_cons, List.length_nil, Nat.reduceAdd, List.all_cons, List.all_nil, isCell_int, isCell_bool, isCell_str, isCell_sl, Bool.and_self, ↓z_loadn, Nat.reduceLeDiff, Nat.le_refl, List.take_succ_cons, List.take_zero, Prog.cs, List.length_map, h, decide_false, Bool.false_eq_true, f16_j7_eq _ (PP_ok _ _ _), z_finC_int hS]
    rw [this, List.drop_of_length_le (by omega)]
    by_cases e : nx = p.roots.length
    · simp [scan, e]
    · have e' : ¬ (nx : Int) = (p.roots.length : Int) := by omega
      simp [scan, e, e']
  | succ n ih =>
    intro i nx hi hnx S hS
    rw [f16_l2_eq _ (PP_ok _ _ _)]
    have h : (i : Int) < (p.ins.length : Int) := by omega
    have ha : i < p.ins.length := by omega
    have ea : (p.ins.map Ins.enc)[i]? = some p.ins[i].enc := by simp [ha]
    have hw : IntKind.wrap .i64 ((i : Int) + 1) = ((i + 1 : Nat) : Int) := wrap_succ i (by omega)
    have hw2 : IntKind.wrap .i64 ((nx : Int) + 1) = ((nx + 1 : Nat) : Int) := wrap_succ nx (by omega)
    have hc : ∀ S, callω T1 G X 51 [.agg [.int .i64 p.ins[i].op, .int .i64 p.ins[i].a, .int .i64 p.ins[i].b], .int .i64 (i : Int), .int .i64 p.inputs] S = .ok (.bool (okIns p.ins[i] i p.inputs)) S := fun S => f51_ok G X p.ins[i] i p.inputs S
    have ih' := fun nx hnx => ih (i + 1) nx (by omega) hnx S hS
    simp -implicitDefEqProofs only [Prog.cs] at ih'
    rw [List.drop_eq_getElem_cons ha]
    generalize hx : p.ins[i] = x at *
    simp -implicitDefEqProofs only [↓z_ret, ↓z_val, ↓z_pick, ↓z_cond, ↓z_boxRo_agg, ↓z_boxRo_int, ↓z_boxRo_bool, ↓z_boxRo_str, ↓z_boxRo_sl, ↓z_boxRo_fn, ↓z_boxRo_vptr, ↓z_boxRo_ref, ↓z_len_sl, ↓z_len_msl, ↓z_len_str, ↓z_load1, ↓z_fa, ↓z_fa_ref, ↓z_callF, ↓z_andK, ↓z_orK, ↓z_and1, ↓z_and2, ↓z_and3, ↓z_and4, ↓z_and5, ↓z_and6, ↓z_and7, ↓z_and8, ↓z_and9, ↓z_and10, ↓z_and11, ↓z_and12, ↓z_or1, ↓z_or2, ↓z_or3, ↓z_or4, ↓z_or5, ↓z_or6, ↓z_or7, ↓z_or8, ↓z_or9, ↓z_or10, ↓z_or11, ↓z_or12, ↓z_add, ↓z_sub, ↓z_mul, ↓z_eql, ↓z_neq, ↓z_lss, ↓z_leq, ↓z_gtr, ↓z_geq, ↓z_not, ↓z_neg, ↓z_fin_int, ↓z_fin_bool, ↓z_fin_str, ↓z_ent_int, ↓z_ent_bool, ↓z_ent_str, ↓z_stn, ↓z_ldnn, ↓z_ldn0, ↓z_ldn1, ↓z_ldn2, ↓z_ldn3, ↓z_ldn4, ↓z_ldn5, ↓z_ldn6, ↓z_ldn7, ↓z_ldn8, List.drop_zero, List.drop_succ_cons, List.cons_append, List.nil_append, decide_eq_true_eq, decide_eq_false_iff_not, ite_not, ↓reduceIte, pub_agg, pub_int, pub_bool, pub_str, pub_fn, pub_vptr, pub_nilp, Nat.zero_add, List.length_cons, List.length_nil, Nat.reduceAdd, List.all_cons, List.all_nil, isCell_int, isCell_bool, isCell_str, isCell_sl, Bool.and_self, ↓z_loadn, Nat.reduceLeDiff, Nat.le_refl, List.take_succ_cons, List.take_zero, Prog.cs, List.length_map, h, decide_true, if_true, f16_j3_eq _ (PP_ok _ _ _), f16_j4_eq _ (PP_ok _ _ _), f16_j5_eq _ (PP_ok _ _ _), f16_j6_eq _ (PP_ok _ _ _), z_idx _ _ _ _ _ _ ea, Ins.enc, Ins.cs, AV.cells, z_call0 (hc _), z_finC_int hS, hw, hw2]
    simp -implicitDefEqProofs only [scan]
    by_cases hok : okIns x i p.inputs = true
    · simp -implicitDefEqProofs only [hok, Bool.not_true, Bool.false_eq_true, ↓reduceIte]
      by_cases h6 : x.op = 6
      · simp -implicitDefEqProofs only [h6, ↓reduceIte, List.length_map]
        by_cases hr : nx = p.roots.length
        · have e1 : (p.roots.length : Int) ≤ (nx : Int) := by omega
          have e2 : p.roots[nx]? = none := List.getElem?_eq_none (by omega)
          simp [e1, e2]
        · have e1 : ¬ (p.roots.length : Int) ≤ (nx : Int) := by omega
          have hlt : nx < p.roots.length := by omega
          have er : (p.roots.map I)[nx]? = some (I p.roots[nx]) := by simp [hlt]
          have er2 : p.roots[nx]? = some p.roots[nx] := List.getElem?_eq_getElem hlt
          simp -implicitDefEqProofs only [e1, ↓z_ret, ↓z_val, ↓z_pick, ↓z_cond, ↓z_boxRo_agg, ↓z_boxRo_int, ↓z_boxRo_bool, ↓z_boxRo_str, ↓z_boxRo_sl, ↓z_boxRo_fn, ↓z_boxRo_vptr, ↓z_boxRo_ref, ↓z_len_sl, ↓z_len_msl, ↓z_len_str, ↓z_load1, ↓z_fa, ↓z_fa_ref, ↓z_callF, ↓z_andK, ↓z_orK, ↓z_and1, ↓z_and2, ↓z_and3, ↓z_and4, ↓z_and5, ↓z_and6, ↓z_and7, ↓z_and8, ↓z_and9, ↓z_and10, ↓z_and11, ↓z_and12, ↓z_or1, ↓z_or2, ↓z_or3, ↓z_or4, ↓z_or5, ↓z_or6, ↓z_or7, ↓z_or8, ↓z_or9, ↓z_or10, ↓z_or11, ↓z_or12, ↓z_add, ↓z_sub, ↓z_mul, ↓z_eql, ↓z_neq, ↓z_lss, ↓z_leq, ↓z_gtr, ↓z_geq, ↓z_not, ↓z_neg, ↓z_fin_int, ↓z_fin_bool, ↓z_fin_str, ↓z_ent_int, ↓z_ent_bool, ↓z_ent_str, ↓z_stn, ↓z_ldnn, ↓z_ldn0, ↓z_ldn1, ↓z_ldn2, ↓z_ldn3, ↓z_ldn4, ↓z_ldn5, ↓z_ldn6, ↓z_ldn7, ↓z_ldn8, List.drop_zero, List.drop_succ_cons, List.cons_append, List.nil_append, decide_eq_true_eq, decide_eq_false_iff_not, ite_not, ↓reduceIte, pub_agg, pub_int, pub_bool, pub_str, pub_fn, pub_vptr, pub_nilp, Nat.zero_add, List.length_cons, List.length_nil, Nat.reduceAdd, List.all_cons, List.all_nil, isCell_int, isCell_bool, isCell_str, isCell_sl, Bool.and_self, ↓z_loadn, Nat.reduceLeDiff, Nat.le_refl, List.take_succ_cons, List.take_zero, z_idx _ _ _ _ _ _ er, AV.cells, z_finC_int hS, er2]
          by_cases hri : p.roots[nx] = (i : Int)
          · simp -implicitDefEqProofs only [hri, not_true_eq_false, ↓reduceIte, ih' (nx + 1) (by omega)]
          · simp [hri]
      · simp -implicitDefEqProofs only [h6, ↓reduceIte, ih' nx hnx]
    · simp [hok]
theorem f16_ok (p : Prog) (s : St) (hv : p.vals.length ≤ 9223372036854775807) (hvv : ∀ v, v ∈ p.vals → v.1.length ≤ 9223372036854775807) : callω T1 G X 16 [p.enc] s = .ok (I p.check) s := by
  rw [f16_call, f16_eq]
  simp -implicitDefEqProofs only [Prog.enc, Prog.cs, ↓z_ret, ↓z_val, ↓z_pick, ↓z_cond, ↓z_boxRo_agg, ↓z_boxRo_int, ↓z_boxRo_bool, ↓z_boxRo_str, ↓z_boxRo_sl, ↓z_boxRo_fn, ↓z_boxRo_vptr, ↓z_boxRo_ref, ↓z_len_sl, ↓z_len_msl, ↓z_len_str, ↓z_load1, ↓z_fa, ↓z_fa_ref, ↓z_callF, ↓z_andK, ↓z_orK, ↓z_and1, ↓z_and2, ↓z_and3, ↓z_and4, ↓z_and5, ↓z_and6, ↓z_and7, ↓z_and8, ↓z_and9, ↓z_and10, ↓z_and11, ↓z_and12, ↓z_or1, ↓z_or2, ↓z_or3, ↓z_or4, ↓z_or5, ↓z_or6, ↓z_or7, ↓z_or8, ↓z_or9, ↓z_or10, ↓z_or11, ↓z_or12, ↓z_add, ↓z_sub, ↓z_mul, ↓z_eql, ↓z_neq, ↓z_lss, ↓z_leq, ↓z_gtr, ↓z_geq, ↓z_not, ↓z_neg, ↓z_fin_int, ↓z_fin_bool, ↓z_fin_str, ↓z_ent_int, ↓z_ent_bool, ↓z_ent_str, ↓z_stn, ↓z_ldnn, ↓z_ldn0, ↓z_ldn1, ↓z_ldn2, ↓z_ldn3, ↓z_ldn4, ↓z_ldn5, ↓z_ldn6, ↓z_ldn7, ↓z_ldn8, List.drop_zero, List.drop_succ_cons, List.cons_append, List.nil_append, decide_eq_true_eq, decide_eq_false_iff_not, ite_not, ↓reduceIte, pub_agg, pub_int, pub_bool, pub_str, pub_fn, pub_vptr, pub_nilp, Nat.zero_add, List.length_cons, List.length_nil, Nat.reduceAdd, List.all_cons, List.all_nil, isCell_int, isCell_bool, isCell_str, isCell_sl, Bool.and_self, ↓z_loadn, Nat.reduceLeDiff, Nat.le_refl, List.take_succ_cons, List.take_zero, List.length_map, f16_j1_eq _ (PP_ok _ _ _)]
  have h10 := fun S hS => f16_l9_ok G X p s hv hvv p.vals.length 0 (by omega) S hS
  simp -implicitDefEqProofs only [Int.natCast_zero, List.drop_zero, Prog.cs] at h10
  by_cases c1 : p.inputs < 0
  · simp [c1, Prog.check]
  by_cases c2 : 20 < p.inputs
  · simp [c1, c2, Prog.check]
  by_cases c3 : 8192 < p.ins.length
  · have c3' : (8192 : Int) < (p.ins.length : Int) := by omega
    simp [c1, c2, c3, c3', Prog.check]
  by_cases c4 : 5 < p.roots.length
  · have c4' : (5 : Int) < (p.roots.length : Int) := by omega
    simp [c1, c2, c3, c4, c4', Prog.check]
  have c3' : ¬ (8192 : Int) < (p.ins.length : Int) := by omega
  have c4' : ¬ (5 : Int) < (p.roots.length : Int) := by omega
  have h2 := f16_l2_ok G X p s (by omega) (by omega) (.ok (I (if (p.vals.all fun v => okVal p.ins.length v.1) = true then 0 else 3)) s) (fun S hS => by
    rw [f16_j8_eq _ (PP_ok _ _ _)]
    simp -implicitDefEqProofs only [Prog.cs, h10 S hS]) p.ins.length 0 0 (by omega) (by omega) s.enter (.enter s)
  simp -implicitDefEqProofs only [Int.natCast_zero, List.drop_zero, Prog.cs] at h2
  simp -implicitDefEqProofs only [c1, c2, c3', c4', if_false, h2, Prog.check, c3, c4, or_self]
  split
  · rename_i e
    simp -implicitDefEqProofs only [e, true_and]
  · rename_i e
    simp -implicitDefEqProofs only [e, false_and, if_false]
end Go.AbZ
end
section
namespace Go.AbZ
open Go.Ab
variable (G : Nat → AV) (X : Nat → List AV → St → Res)
set_option linter.unusedSimpArgs false
set_option linter.unusedVariables false
abbrev W64 (n : Int) : Int := IntKind.wrap .i64 n
/-- The degree of an instruction, by those before it. -/
def deg1 (out : List Int) (x : Ins) : Int :=
  if x.op = 1 then 1
  else if x.op = 3 ∨ x.op = 4 then max (out.getD x.a.toNat 0) (out.getD x.b.toNat 0)
  else if x.op = 5 then W64 (out.getD x.a.toNat 0 + out.getD x.b.toNat 0)
  else if x.op = 6 then W64 ((W64 (out.getD x.a.toNat 0 + 1)).tdiv 2)
  else 0
def degs : List Ins → List Int → Option (List Int)
  | [], out => some out
  | x :: xs, out => if 1073741824 < deg1 out x then none else degs xs (out ++ [deg1 out x])
/-- Every instruction names earlier registers. -/
def okArgs : List Ins → Nat → Bool
  | [], _ => true
  | x :: xs, i => (if x.op = 3 ∨ x.op = 4 ∨ x.op = 5 then decide ((0 ≤ x.a ∧ x.a < (i : Int)) ∧ (0 ≤ x.b ∧ x.b < (i : Int))) else if x.op = 6 then decide (0 ≤ x.a ∧ x.a < (i : Int)) else true) && okArgs xs (i + 1)
theorem okArgs_scan (roots : List Int) (inputs : Int) : ∀ (xs : List Ins) (i nx m : Nat), scan roots inputs xs i nx = some m → okArgs xs i = true
  | [], _, _, _, _ => rfl
  | x :: xs, i, nx, m, h => by
    simp -implicitDefEqProofs only [scan] at h
    split at h
    · rename_i hok
      have hx : (if x.op = 3 ∨ x.op = 4 ∨ x.op = 5 then decide ((0 ≤ x.a ∧ x.a < (i : Int)) ∧ (0 ≤ x.b ∧ x.b < (i : Int))) else if x.op = 6 then decide (0 ≤ x.a ∧ x.a < (i : Int)) else true) = true := by
        unfold okIns at hok
        grind
      simp -implicitDefEqProofs only [okArgs, hx, Bool.true_and]
      split at h
      · split at h
        · exact okArgs_scan roots inputs xs _ _ m h
        · cases h
      · exact okArgs_scan roots inputs xs _ _ m h
    · cases h
theorem max_if (a b : Int) : (if b > a then b else a) = max a b := by split <;> omega

theorem gfin_map {α β : Type} (f : α → β) (l : List α) : gfin (l.map f) = gfin l := by cases l <;> rfl
/-- What Degree hands back. -/
def degR (r : Option (List Int)) (g : List Int → Gr) : AV :=
  match r with
  | none => .tup [.sl 1 [] .nil, I 2]
  | some l => .tup [sl1 l (g l), I 0]

theorem idx_out (out : List Int) (g : Gr) (a : Int) (h0 : 0 ≤ a) (h1 : a < (out.length : Int)) (k : K1) (S : St) : (PP T1 G X).idx S k 1 (.sl 1 (out.map I) g) (.int .i64 a) = k (.vptr [I (out.getD a.toNat 0)]) S := by
  have : a.toNat < out.length := by omega
  exact z_idxI 1 (out.map I) g .i64 a (I (out.getD a.toNat 0)) h0 (by simp [List.getD, this])
end Go.AbZ
end
section
namespace Go.AbZ
open Go.Ab
theorem refless_ints : ∀ l : List Int, AV.reflessL (l.map I) = true
  | [] => rfl
  | x :: l => by simp -implicitDefEqProofs only [List.map_cons, AV.reflessL, AV.refless, refless_ints l, Bool.and_self]
variable (G : Nat → AV) (X : Nat → List AV → St → Res)
set_option linter.unusedSimpArgs false
set_option linter.unusedVariables false
theorem check0 {p : Prog} (h : p.check = 0) : p.ins.length ≤ 8192 ∧ okArgs p.ins 0 = true ∧ scan p.roots p.inputs p.ins 0 0 = some p.roots.length ∧ (p.vals.all fun v => okVal p.ins.length v.1) = true := by
  unfold Prog.check at h
  split at h
  · cases h
  · rename_i h1
    split at h
    · rename_i h2
      exact ⟨by omega, okArgs_scan _ _ _ _ _ _ h2.1, h2⟩
    · cases h
/-! The program's own Degree: it makes the list at full length first. -/
def full (out : List Int) (n : Nat) : List AV := out.map I ++ List.replicate (n - out.length) (I 0)
theorem full_len (out : List Int) (n : Nat) (h : out.length ≤ n) : (full out n).length = n := by simp [full]; omega
theorem full_set (out : List Int) (n : Nat) (d : Int) (h : out.length < n) : (full out n).set out.length (I d) = full (out ++ [d]) n := by
  unfold full
  obtain ⟨m, hm⟩ : ∃ m, n - out.length = m + 1 := ⟨n - out.length - 1, by omega⟩
  have hm' : n - (out ++ [d]).length = m := by simp; omega
  rw [hm, hm', List.replicate_succ]
  rw [show out.length = (out.map I).length from by simp, List.set_append_right _ _ (Nat.le_refl _)]
  simp
theorem full_get (out : List Int) (n a : Nat) (h : a < out.length) : (full out n)[a]? = some (I (out.getD a 0)) := by
  unfold full
  rw [List.getElem?_append_left (by simpa using h)]
  simp [List.getD, h]
theorem full_full (out : List Int) : full out out.length = out.map I := by simp [full]
theorem own_new {S : St} {j : Nat} {o : AObj} (h : S.own[j]? = some o) (o' : AObj) : (S.new o').own[j]? = some o := by
  have hj := (List.getElem?_eq_some_iff.1 h).1
  simp -implicitDefEqProofs only [St.new]
  rw [List.getElem?_append_left hj]
  exact h
theorem idx_own (out : List Int) (j n : Nat) (a : Int) (h0 : 0 ≤ a) (h1 : a < (out.length : Int)) (k : K1) (S : St) : (PP T1 G X).idx S k 1 (.msl (.l j) 0 out.length n 1) (.int .i64 a) = k (.ref (.l j) (0 + a.toNat * 1)) S := by
  obtain ⟨b, rfl⟩ := Int.eq_ofNat_of_zero_le h0
  exact z_idx_msl (.l j) 0 out.length n 1 .i64 b (by omega)
theorem ld_own (out : List Int) (j n : Nat) (a : Nat) (h1 : a < out.length) (k : K1) (S : St) (h : S.own[j]? = some (.cells (full out n))) : (PP T1 G X).load S k none (.ref (.l j) (0 + a * 1)) = k (I (out.getD a 0)) S :=
  z_ld_own h (by simpa using full_get out n a h1)
end Go.AbZ
end
section
/- Residues: what a rule's ring computes, and that it commutes with the reduction modulo a divisor. -/
namespace Go.AbZ
open Go.Ab
theorem w64_in (a : Int) (h1 : -9223372036854775808 ≤ a) (h2 : a ≤ 9223372036854775807) : W64 a = a := wrap_in a h1 h2
/-- Rule.Reduce -/
def redI (m n : Int) : Int := if m ≤ 0 then n else if n.tmod m < 0 then W64 (n.tmod m + m) else n.tmod m
def addI (m a b : Int) : Int := redI m (W64 (a + b))
def subI (m a b : Int) : Int := redI m (W64 (a - b))
def mulI (m a b : Int) : Int := redI m (W64 (a * b))
def rootI (m b i a : Int) : Int := addI m (mulI m (redI m b) a) (redI m (W64 (i + 1)))
theorem redI_pos {m : Int} (h : 0 < m) (h2 : m ≤ 4611686018427387904) (n : Int) : redI m n = n % m := by
  unfold redI
  rw [if_neg (by omega)]
  have h3 := Int.tmod_lt_of_pos n h
  have h4 := Int.mul_tdiv_add_tmod n m
  have h5 : -m < n.tmod m := by
    by_cases hn : 0 ≤ n
    · have := Int.tmod_nonneg m hn
      omega
    · have h6 := Int.tmod_lt_of_pos (-n) h
      rw [Int.neg_tmod] at h6
      omega
  split
  · rw [w64_in _ (by omega) (by omega)]
    have e : n = (n.tmod m + m) + m * (n.tdiv m - 1) := by rw [Int.mul_sub]; omega
    have := Int.add_mul_emod_self_left (n.tmod m + m) m (n.tdiv m - 1)
    rw [← e] at this
    rw [this, Int.emod_eq_of_lt (by omega) (by omega)]
  · have e : n = n.tmod m + m * n.tdiv m := by omega
    have := Int.add_mul_emod_self_left (n.tmod m) m (n.tdiv m)
    rw [← e] at this
    rw [this, Int.emod_eq_of_lt (by omega) (by omega)]
/-- The words of a ring, and what a program comes to in it. -/
structure Ops where
  c : Int → Int
  add : Int → Int → Int
  sub : Int → Int → Int
  mul : Int → Int → Int
  root : Int → Int → Int
def opsM (m b : Int) : Ops := ⟨redI m, addI m, subI m, mulI m, rootI m b⟩
def valR (R : Ops) (inp out : List Int) (nr : Nat) (x : Ins) : Int :=
  if x.op = 1 then inp.getD x.a.toNat 0
  else if x.op = 2 then R.c x.a
  else if x.op = 3 then R.add (out.getD x.a.toNat 0) (out.getD x.b.toNat 0)
  else if x.op = 4 then R.sub (out.getD x.a.toNat 0) (out.getD x.b.toNat 0)
  else if x.op = 5 then R.mul (out.getD x.a.toNat 0) (out.getD x.b.toNat 0)
  else if x.op = 6 then R.root nr (out.getD x.a.toNat 0)
  else 0
def nextR (x : Ins) (nr : Nat) : Nat := if x.op = 6 then nr + 1 else nr
def runR (R : Ops) (inp : List Int) : List Ins → Nat → List Int → List Int
  | [], _, out => out
  | x :: xs, nr, out => runR R inp xs (nextR x nr) (out ++ [valR R inp out nr x])
theorem runR_len (R : Ops) (inp : List Int) : ∀ (xs : List Ins) (nr : Nat) (out : List Int), (runR R inp xs nr out).length = out.length + xs.length
  | [], _, _ => by simp [runR]
  | x :: xs, nr, out => by
    simp -implicitDefEqProofs only [runR]
    rw [runR_len R inp xs]
    simp; omega
/-- Every instruction may stand where it stands. -/
def okAll (inputs : Int) : List Ins → Nat → Bool
  | [], _ => true
  | x :: xs, i => okIns x i inputs && okAll inputs xs (i + 1)
theorem okAll_scan (roots : List Int) (inputs : Int) : ∀ (xs : List Ins) (i nx m : Nat), scan roots inputs xs i nx = some m → okAll inputs xs i = true
  | [], _, _, _, _ => rfl
  | x :: xs, i, nx, m, h => by
    simp -implicitDefEqProofs only [scan] at h
    split at h
    · rename_i hok
      simp -implicitDefEqProofs only [okAll, hok, Bool.true_and]
      split at h
      · split at h
        · exact okAll_scan roots inputs xs _ _ m h
        · cases h
      · exact okAll_scan roots inputs xs _ _ m h
    · cases h
theorem okIns_op {x : Ins} {i inputs : Int} (h : okIns x i inputs = true) : x.op = 1 ∨ x.op = 2 ∨ x.op = 3 ∨ x.op = 4 ∨ x.op = 5 ∨ x.op = 6 := by
  unfold okIns at h
  split at h
  · omega
  split at h
  · omega
  split at h
  · omega
  split at h
  · omega
  · cases h

set_option linter.unusedSectionVars false
/-! Reduction modulo a divisor. -/
theorem emod_dvd {a M n : Int} (h : a ∣ M) : n % M % a = n % a := Int.emod_emod_of_dvd n h
structure Red (a M v w : Int) : Prop where
  lo : 0 ≤ v
  hi : v < M
  eq : v % a = w
section
variable {a M : Int} (ha : 0 < a) (hM : 0 < M) (haM : a ∣ M) (hle : a ≤ M) (hbig : M ≤ 1000000000)
include ha hM haM hle hbig
theorem Red.lo2 {v w : Int} (h : Red a M v w) : 0 ≤ w ∧ w < a := by
  obtain ⟨_, _, rfl⟩ := h
  exact ⟨Int.emod_nonneg _ (by omega), Int.emod_lt_of_pos _ ha⟩
theorem red_red (n : Int) : Red a M (redI M n) (redI a n) := by
  rw [redI_pos hM (by omega), redI_pos ha (by omega)]
  exact ⟨Int.emod_nonneg _ (by omega), Int.emod_lt_of_pos _ hM, emod_dvd haM⟩
theorem red_of {x y : Int} (hx1 : -9223372036854775808 ≤ x) (hx2 : x ≤ 9223372036854775807) (hy1 : -9223372036854775808 ≤ y) (hy2 : y ≤ 9223372036854775807) (e : x % a = y % a) : Red a M (redI M (W64 x)) (redI a (W64 y)) := by
  rw [w64_in _ hx1 hx2, w64_in _ hy1 hy2, redI_pos hM (by omega), redI_pos ha (by omega)]
  exact ⟨Int.emod_nonneg _ (by omega), Int.emod_lt_of_pos _ hM, by rw [emod_dvd haM, e]⟩
theorem red_add {v w v' w' : Int} (h : Red a M v w) (h' : Red a M v' w') : Red a M (addI M v v') (addI a w w') := by
  have l := h.lo2 ha hM haM hle hbig
  have l' := h'.lo2 ha hM haM hle hbig
  have := h.lo; have := h.hi; have := h'.lo; have := h'.hi
  exact red_of ha hM haM hle hbig (by omega) (by omega) (by omega) (by omega) (by rw [← h.eq, ← h'.eq, ← Int.add_emod])
theorem red_sub {v w v' w' : Int} (h : Red a M v w) (h' : Red a M v' w') : Red a M (subI M v v') (subI a w w') := by
  have l := h.lo2 ha hM haM hle hbig
  have l' := h'.lo2 ha hM haM hle hbig
  have := h.lo; have := h.hi; have := h'.lo; have := h'.hi
  exact red_of ha hM haM hle hbig (by omega) (by omega) (by omega) (by omega) (by rw [← h.eq, ← h'.eq, ← Int.sub_emod])
theorem red_mul {v w v' w' : Int} (h : Red a M v w) (h' : Red a M v' w') : Red a M (mulI M v v') (mulI a w w') := by
  have l := h.lo2 ha hM haM hle hbig
  have l' := h'.lo2 ha hM haM hle hbig
  have b1 := h.lo; have b2 := h.hi; have b3 := h'.lo; have b4 := h'.hi
  have p1 : 0 ≤ v * v' := Int.mul_nonneg b1 b3
  have p2 : v * v' ≤ 1000000000 * 1000000000 := Int.mul_le_mul (by omega) (by omega) b3 (by omega)
  have p3 : 0 ≤ w * w' := Int.mul_nonneg l.1 l'.1
  have p4 : w * w' ≤ 1000000000 * 1000000000 := Int.mul_le_mul (by omega) (by omega) l'.1 (by omega)
  exact red_of ha hM haM hle hbig (by omega) (by omega) (by omega) (by omega) (by rw [← h.eq, ← h'.eq, ← Int.mul_emod])
theorem red_root {v w : Int} (b : Int) (i : Int) (h : Red a M v w) : Red a M (rootI M b i v) (rootI a b i w) :=
  red_add ha hM haM hle hbig (red_mul ha hM haM hle hbig (red_red ha hM haM hle hbig b) h) (red_red ha hM haM hle hbig _)
def RedL (a M : Int) (v w : List Int) : Prop := v.length = w.length ∧ ∀ i, i < v.length → Red a M (v.getD i 0) (w.getD i 0)
theorem redL_runR (b : Int) (x y : List Int) (hxy : RedL a M x y) : ∀ (xs : List Ins) (i nr : Nat) (v w : List Int), okAll x.length xs i = true → v.length = i → RedL a M v w →
    RedL a M (runR (opsM M b) x xs nr v) (runR (opsM a b) y xs nr w)
  | [], _, _, _, _, _, _, h => h
  | t :: xs, i, nr, v, w, hok, hi, h => by
    simp -implicitDefEqProofs only [okAll, Bool.and_eq_true] at hok
    simp -implicitDefEqProofs only [runR]
    refine redL_runR b x y hxy xs (i + 1) _ _ _ hok.2 (by simp [hi]) ⟨by simp [h.1], fun k hk => ?_⟩
    simp -implicitDefEqProofs only [List.length_append, List.length_cons, List.length_nil] at hk
    by_cases hkv : k < v.length
    · have := h.2 k hkv
      have hkw : k < w.length := h.1 ▸ hkv
      have e1 : (v ++ [valR (opsM M b) x v nr t]).getD k 0 = v.getD k 0 := by simp -implicitDefEqProofs only [List.getD]; rw [List.getElem?_append_left hkv]
      have e2 : (w ++ [valR (opsM a b) y w nr t]).getD k 0 = w.getD k 0 := by simp -implicitDefEqProofs only [List.getD]; rw [List.getElem?_append_left hkw]
      rw [e1, e2]
      exact this
    · have hk' : k = v.length := by omega
      subst hk'
      have hw : v.length = w.length := h.1
      have e1 : (v ++ [valR (opsM M b) x v nr t]).getD v.length 0 = valR (opsM M b) x v nr t := by simp [List.getD]
      have e2 : (w ++ [valR (opsM a b) y w nr t]).getD v.length 0 = valR (opsM a b) y w nr t := by simp [List.getD, hw]
      rw [e1, e2]
      have hx := hok.1
      have hvr := fun (n : Int) (h0 : 0 ≤ n) (h1 : n < (i : Int)) => h.2 n.toNat (by omega)
      unfold okIns at hx
      unfold valR
      split
      · rename_i h1
        simp -implicitDefEqProofs only [h1, if_true, decide_eq_true_eq] at hx
        exact hxy.2 _ (by omega)
      split
      · exact red_red ha hM haM hle hbig _
      rename_i h1 h2
      split
      · rename_i h3
        simp -implicitDefEqProofs only [h3] at hx
        simp at hx
        exact red_add ha hM haM hle hbig (hvr _ hx.1.1 hx.1.2) (hvr _ hx.2.1 hx.2.2)
      split
      · rename_i h3
        simp -implicitDefEqProofs only [h3] at hx
        simp at hx
        exact red_sub ha hM haM hle hbig (hvr _ hx.1.1 hx.1.2) (hvr _ hx.2.1 hx.2.2)
      split
      · rename_i h3
        simp -implicitDefEqProofs only [h3] at hx
        simp at hx
        exact red_mul ha hM haM hle hbig (hvr _ hx.1.1 hx.1.2) (hvr _ hx.2.1 hx.2.2)
      split
      · rename_i h3
        simp -implicitDefEqProofs only [h3] at hx
        simp at hx
        exact red_root ha hM haM hle hbig _ _ (hvr _ hx.1.1 hx.1.2)
      · rename_i h3 h4 h5 h6
        have := okIns_op hok.1
        omega
end
end Go.AbZ
end
section
namespace Go.AbZ
open Go.Ab
variable (G : Nat → AV) (X : Nat → List AV → St → Res)
set_option linter.unusedSimpArgs false
set_option linter.unusedVariables false
theorem z_rem' {s : St} {k : K1} (kk : IntKind) (a b : Int) (h : b ≠ 0) : (PP T1 G X).val s k (binV .rem (.int kk a) (.int kk b)) = k (.int kk (a.tmod b)) s := by
  rw [show binV .rem (.int kk a) (.int kk b) = some (.int kk (a.tmod b)) from by simp [binV, intBin, h]]
  rfl
theorem f18_ok (m b n : Int) (w : AV) (s : St) (hw : w.isVal = true) : callω T1 G X 18 [.agg [I m, I b, w], I n] s = .ok (I (redI m n)) s := by
  rw [f18_call, f18_eq]
  unfold redI
  by_cases h : m ≤ 0
  · simp -implicitDefEqProofs only [↓z_ret, ↓z_val, ↓z_pick, ↓z_cond, ↓z_boxRo_agg, ↓z_boxRo_int, ↓z_boxRo_bool, ↓z_boxRo_str, ↓z_boxRo_sl, ↓z_boxRo_fn, ↓z_boxRo_vptr, ↓z_boxRo_ref, ↓z_len_sl, ↓z_len_msl, ↓z_len_str, ↓z_load1, ↓z_fa, ↓z_fa_ref, ↓z_callF, ↓z_andK, ↓z_orK, ↓z_and1, ↓z_and2, ↓z_and3, ↓z_and4, ↓z_and5, ↓z_and6, ↓z_and7, ↓z_and8, ↓z_and9, ↓z_and10, ↓z_and11, ↓z_and12, ↓z_or1, ↓z_or2, ↓z_or3, ↓z_or4, ↓z_or5, ↓z_or6, ↓z_or7, ↓z_or8, ↓z_or9, ↓z_or10, ↓z_or11, ↓z_or12, ↓z_add, ↓z_sub, ↓z_mul, ↓z_eql, ↓z_neq, ↓z_lss, ↓z_leq, ↓z_gtr, ↓z_geq, ↓z_not, ↓z_neg, ↓z_fin_int, ↓z_fin_bool, ↓z_fin_str, ↓z_ent_int, ↓z_ent_bool, ↓z_ent_str, ↓z_stn, ↓z_ldnn, ↓z_ldn0, ↓z_ldn1, ↓z_ldn2, ↓z_ldn3, ↓z_ldn4, ↓z_ldn5, ↓z_ldn6, ↓z_ldn7, ↓z_ldn8, List.drop_zero, List.drop_succ_cons, List.cons_append, List.nil_append, decide_eq_true_eq, decide_eq_false_iff_not, ite_not, ↓reduceIte, pub_agg, pub_int, pub_bool, pub_str, pub_fn, pub_vptr, pub_nilp, Nat.zero_add, List.length_cons, List.length_nil, Nat.reduceAdd, List.all_cons, List.all_nil, isCell_int, isCell_bool, isCell_str, isCell_sl, Bool.and_self, ↓z_loadn, Nat.reduceLeDiff, Nat.le_refl, List.take_succ_cons, List.take_zero, eq_true h, decide_true]
  · have hm : m ≠ 0 := by omega
    simp -implicitDefEqProofs only [↓z_ret, ↓z_val, ↓z_pick, ↓z_cond, ↓z_boxRo_agg, ↓z_boxRo_int, ↓z_boxRo_bool, ↓z_boxRo_str, ↓z_boxRo_sl, ↓z_boxRo_fn, ↓z_boxRo_vptr, ↓z_boxRo_ref, ↓z_len_sl, ↓z_len_msl, ↓z_len_str, ↓z_load1, ↓z_fa, ↓z_fa_ref, ↓z_callF, ↓z_andK, ↓z_orK, ↓z_and1, ↓z_and2, ↓z_and3, ↓z_and4, ↓z_and5, ↓z_and6, ↓z_and7, ↓z_and8, ↓z_and9, ↓z_and10, ↓z_and11, ↓z_and12, ↓z_or1, ↓z_or2, ↓z_or3, ↓z_or4, ↓z_or5, ↓z_or6, ↓z_or7, ↓z_or8, ↓z_or9, ↓z_or10, ↓z_or11, ↓z_or12, ↓z_add, ↓z_sub, ↓z_mul, ↓z_eql, ↓z_neq, ↓z_lss, ↓z_leq, ↓z_gtr, ↓z_geq, ↓z_not, ↓z_neg, ↓z_fin_int, ↓z_fin_bool, ↓z_fin_str, ↓z_ent_int, ↓z_ent_bool, ↓z_ent_str, ↓z_stn, ↓z_ldnn, ↓z_ldn0, ↓z_ldn1, ↓z_ldn2, ↓z_ldn3, ↓z_ldn4, ↓z_ldn5, ↓z_ldn6, ↓z_ldn7, ↓z_ldn8, List.drop_zero, List.drop_succ_cons, List.cons_append, List.nil_append, decide_eq_true_eq, decide_eq_false_iff_not, ite_not, ↓reduceIte, pub_agg, pub_int, pub_bool, pub_str, pub_fn, pub_vptr, pub_nilp, Nat.zero_add, List.length_cons, List.length_nil, Nat.reduceAdd, List.all_cons, List.all_nil, isCell_int, isCell_bool, isCell_str, isCell_sl, Bool.and_self, ↓z_loadn, Nat.reduceLeDiff, Nat.le_refl, List.take_succ_cons, List.take_zero, eq_false h, decide_false, Bool.false_eq_true, f18_j1_eq _ (PP_ok _ _ _), ↓z_rem' G X _ _ _ hm]
    by_cases h2 : n.tmod m < 0
    · simp -implicitDefEqProofs only [eq_true h2, ↓reduceIte, f18_j2_eq _ (PP_ok _ _ _), ↓z_ret, ↓z_val, ↓z_pick, ↓z_cond, ↓z_boxRo_agg, ↓z_boxRo_int, ↓z_boxRo_bool, ↓z_boxRo_str, ↓z_boxRo_sl, ↓z_boxRo_fn, ↓z_boxRo_vptr, ↓z_boxRo_ref, ↓z_len_sl, ↓z_len_msl, ↓z_len_str, ↓z_load1, ↓z_fa, ↓z_fa_ref, ↓z_callF, ↓z_andK, ↓z_orK, ↓z_and1, ↓z_and2, ↓z_and3, ↓z_and4, ↓z_and5, ↓z_and6, ↓z_and7, ↓z_and8, ↓z_and9, ↓z_and10, ↓z_and11, ↓z_and12, ↓z_or1, ↓z_or2, ↓z_or3, ↓z_or4, ↓z_or5, ↓z_or6, ↓z_or7, ↓z_or8, ↓z_or9, ↓z_or10, ↓z_or11, ↓z_or12, ↓z_add, ↓z_sub, ↓z_mul, ↓z_eql, ↓z_neq, ↓z_lss, ↓z_leq, ↓z_gtr, ↓z_geq, ↓z_not, ↓z_neg, ↓z_fin_int, ↓z_fin_bool, ↓z_fin_str, ↓z_ent_int, ↓z_ent_bool, ↓z_ent_str, ↓z_stn, ↓z_ldnn, ↓z_ldn0, ↓z_ldn1, ↓z_ldn2, ↓z_ldn3, ↓z_ldn4, ↓z_ldn5, ↓z_ldn6, ↓z_ldn7, ↓z_ldn8, List.drop_zero, List.drop_succ_cons, List.cons_append, List.nil_append, decide_eq_true_eq, decide_eq_false_iff_not, ite_not, ↓reduceIte, pub_agg, pub_int, pub_bool, pub_str, pub_fn, pub_vptr, pub_nilp, Nat.zero_add, List.length_cons, List.length_nil, Nat.reduceAdd, List.all_cons, List.all_nil, isCell_int, isCell_bool, isCell_str, isCell_sl, Bool.and_self, ↓z_loadn, Nat.reduceLeDiff, Nat.le_refl, List.take_succ_cons, List.take_zero]
    · simp -implicitDefEqProofs only [eq_false h2, ↓reduceIte, f18_j2_eq _ (PP_ok _ _ _), ↓z_ret, ↓z_val, ↓z_pick, ↓z_cond, ↓z_boxRo_agg, ↓z_boxRo_int, ↓z_boxRo_bool, ↓z_boxRo_str, ↓z_boxRo_sl, ↓z_boxRo_fn, ↓z_boxRo_vptr, ↓z_boxRo_ref, ↓z_len_sl, ↓z_len_msl, ↓z_len_str, ↓z_load1, ↓z_fa, ↓z_fa_ref, ↓z_callF, ↓z_andK, ↓z_orK, ↓z_and1, ↓z_and2, ↓z_and3, ↓z_and4, ↓z_and5, ↓z_and6, ↓z_and7, ↓z_and8, ↓z_and9, ↓z_and10, ↓z_and11, ↓z_and12, ↓z_or1, ↓z_or2, ↓z_or3, ↓z_or4, ↓z_or5, ↓z_or6, ↓z_or7, ↓z_or8, ↓z_or9, ↓z_or10, ↓z_or11, ↓z_or12, ↓z_add, ↓z_sub, ↓z_mul, ↓z_eql, ↓z_neq, ↓z_lss, ↓z_leq, ↓z_gtr, ↓z_geq, ↓z_not, ↓z_neg, ↓z_fin_int, ↓z_fin_bool, ↓z_fin_str, ↓z_ent_int, ↓z_ent_bool, ↓z_ent_str, ↓z_stn, ↓z_ldnn, ↓z_ldn0, ↓z_ldn1, ↓z_ldn2, ↓z_ldn3, ↓z_ldn4, ↓z_ldn5, ↓z_ldn6, ↓z_ldn7, ↓z_ldn8, List.drop_zero, List.drop_succ_cons, List.cons_append, List.nil_append, decide_eq_true_eq, decide_eq_false_iff_not, ite_not, ↓reduceIte, pub_agg, pub_int, pub_bool, pub_str, pub_fn, pub_vptr, pub_nilp, Nat.zero_add, List.length_cons, List.length_nil, Nat.reduceAdd, List.all_cons, List.all_nil, isCell_int, isCell_bool, isCell_str, isCell_sl, Bool.and_self, ↓z_loadn, Nat.reduceLeDiff, Nat.le_refl, List.take_succ_cons, List.take_zero]

abbrev rcs (m b : Int) : List AV := [I m, I b, .sl 1 [] .nil]
theorem rl_val : (AV.sl 1 [] .nil).isVal = true := rfl
theorem f18_ok' (m b n : Int) (s : St) : callω T1 G X 18 [.agg (rcs m b), I n] s = .ok (I (redI m n)) s := f18_ok G X m b n _ s rfl
theorem f24_ok (m b x y : Int) (s : St) : callω T1 G X 24 [.agg (rcs m b), I x, I y] s = .ok (I (addI m x y)) s := by
  rw [f24_call, f24_eq]
  simp -implicitDefEqProofs only [rcs, ↓z_ret, ↓z_val, ↓z_pick, ↓z_cond, ↓z_boxRo_agg, ↓z_boxRo_int, ↓z_boxRo_bool, ↓z_boxRo_str, ↓z_boxRo_sl, ↓z_boxRo_fn, ↓z_boxRo_vptr, ↓z_boxRo_ref, ↓z_len_sl, ↓z_len_msl, ↓z_len_str, ↓z_load1, ↓z_fa, ↓z_fa_ref, ↓z_callF, ↓z_andK, ↓z_orK, ↓z_and1, ↓z_and2, ↓z_and3, ↓z_and4, ↓z_and5, ↓z_and6, ↓z_and7, ↓z_and8, ↓z_and9, ↓z_and10, ↓z_and11, ↓z_and12, ↓z_or1, ↓z_or2, ↓z_or3, ↓z_or4, ↓z_or5, ↓z_or6, ↓z_or7, ↓z_or8, ↓z_or9, ↓z_or10, ↓z_or11, ↓z_or12, ↓z_add, ↓z_sub, ↓z_mul, ↓z_eql, ↓z_neq, ↓z_lss, ↓z_leq, ↓z_gtr, ↓z_geq, ↓z_not, ↓z_neg, ↓z_fin_int, ↓z_fin_bool, ↓z_fin_str, ↓z_ent_int, ↓z_ent_bool, ↓z_ent_str, ↓z_stn, ↓z_ldnn, ↓z_ldn0, ↓z_ldn1, ↓z_ldn2, ↓z_ldn3, ↓z_ldn4, ↓z_ldn5, ↓z_ldn6, ↓z_ldn7, ↓z_ldn8, List.drop_zero, List.drop_succ_cons, List.cons_append, List.nil_append, decide_eq_true_eq, decide_eq_false_iff_not, ite_not, ↓reduceIte, pub_agg, pub_int, pub_bool, pub_str, pub_fn, pub_vptr, pub_nilp, Nat.zero_add, List.length_cons, List.length_nil, Nat.reduceAdd, List.all_cons, List.all_nil, isCell_int, isCell_bool, isCell_str, isCell_sl, Bool.and_self, ↓z_loadn, Nat.reduceLeDiff, Nat.le_refl, List.take_succ_cons, List.take_zero, z_call0 (f18_ok' G X _ _ _ _), addI]
theorem f26_ok (m b x y : Int) (s : St) : callω T1 G X 26 [.agg (rcs m b), I x, I y] s = .ok (I (subI m x y)) s := by
  rw [f26_call, f26_eq]
  simp -implicitDefEqProofs only [rcs, ↓z_ret, ↓z_val, ↓z_pick, ↓z_cond, ↓z_boxRo_agg, ↓z_boxRo_int, ↓z_boxRo_bool, ↓z_boxRo_str, ↓z_boxRo_sl, ↓z_boxRo_fn, ↓z_boxRo_vptr, ↓z_boxRo_ref, ↓z_len_sl, ↓z_len_msl, ↓z_len_str, ↓z_load1, ↓z_fa, ↓z_fa_ref, ↓z_callF, ↓z_andK, ↓z_orK, ↓z_and1, ↓z_and2, ↓z_and3, ↓z_and4, ↓z_and5, ↓z_and6, ↓z_and7, ↓z_and8, ↓z_and9, ↓z_and10, ↓z_and11, ↓z_and12, ↓z_or1, ↓z_or2, ↓z_or3, ↓z_or4, ↓z_or5, ↓z_or6, ↓z_or7, ↓z_or8, ↓z_or9, ↓z_or10, ↓z_or11, ↓z_or12, ↓z_add, ↓z_sub, ↓z_mul, ↓z_eql, ↓z_neq, ↓z_lss, ↓z_leq, ↓z_gtr, ↓z_geq, ↓z_not, ↓z_neg, ↓z_fin_int, ↓z_fin_bool, ↓z_fin_str, ↓z_ent_int, ↓z_ent_bool, ↓z_ent_str, ↓z_stn, ↓z_ldnn, ↓z_ldn0, ↓z_ldn1, ↓z_ldn2, ↓z_ldn3, ↓z_ldn4, ↓z_ldn5, ↓z_ldn6, ↓z_ldn7, ↓z_ldn8, List.drop_zero, List.drop_succ_cons, List.cons_append, List.nil_append, decide_eq_true_eq, decide_eq_false_iff_not, ite_not, ↓reduceIte, pub_agg, pub_int, pub_bool, pub_str, pub_fn, pub_vptr, pub_nilp, Nat.zero_add, List.length_cons, List.length_nil, Nat.reduceAdd, List.all_cons, List.all_nil, isCell_int, isCell_bool, isCell_str, isCell_sl, Bool.and_self, ↓z_loadn, Nat.reduceLeDiff, Nat.le_refl, List.take_succ_cons, List.take_zero, z_call0 (f18_ok' G X _ _ _ _), subI]
theorem f28_ok (m b x y : Int) (s : St) : callω T1 G X 28 [.agg (rcs m b), I x, I y] s = .ok (I (mulI m x y)) s := by
  rw [f28_call, f28_eq]
  simp -implicitDefEqProofs only [rcs, ↓z_ret, ↓z_val, ↓z_pick, ↓z_cond, ↓z_boxRo_agg, ↓z_boxRo_int, ↓z_boxRo_bool, ↓z_boxRo_str, ↓z_boxRo_sl, ↓z_boxRo_fn, ↓z_boxRo_vptr, ↓z_boxRo_ref, ↓z_len_sl, ↓z_len_msl, ↓z_len_str, ↓z_load1, ↓z_fa, ↓z_fa_ref, ↓z_callF, ↓z_andK, ↓z_orK, ↓z_and1, ↓z_and2, ↓z_and3, ↓z_and4, ↓z_and5, ↓z_and6, ↓z_and7, ↓z_and8, ↓z_and9, ↓z_and10, ↓z_and11, ↓z_and12, ↓z_or1, ↓z_or2, ↓z_or3, ↓z_or4, ↓z_or5, ↓z_or6, ↓z_or7, ↓z_or8, ↓z_or9, ↓z_or10, ↓z_or11, ↓z_or12, ↓z_add, ↓z_sub, ↓z_mul, ↓z_eql, ↓z_neq, ↓z_lss, ↓z_leq, ↓z_gtr, ↓z_geq, ↓z_not, ↓z_neg, ↓z_fin_int, ↓z_fin_bool, ↓z_fin_str, ↓z_ent_int, ↓z_ent_bool, ↓z_ent_str, ↓z_stn, ↓z_ldnn, ↓z_ldn0, ↓z_ldn1, ↓z_ldn2, ↓z_ldn3, ↓z_ldn4, ↓z_ldn5, ↓z_ldn6, ↓z_ldn7, ↓z_ldn8, List.drop_zero, List.drop_succ_cons, List.cons_append, List.nil_append, decide_eq_true_eq, decide_eq_false_iff_not, ite_not, ↓reduceIte, pub_agg, pub_int, pub_bool, pub_str, pub_fn, pub_vptr, pub_nilp, Nat.zero_add, List.length_cons, List.length_nil, Nat.reduceAdd, List.all_cons, List.all_nil, isCell_int, isCell_bool, isCell_str, isCell_sl, Bool.and_self, ↓z_loadn, Nat.reduceLeDiff, Nat.le_refl, List.take_succ_cons, List.take_zero, z_call0 (f18_ok' G X _ _ _ _), mulI]
theorem f30_ok (m b i a : Int) (s : St) : callω T1 G X 30 [.agg (rcs m b), I i, I a] s = .ok (I (rootI m b i a)) s := by
  rw [f30_call, f30_eq]
  have hr : AV.reflessL [.agg (rcs m b), I b] = true := rfl
  have hr2 : ∀ q, AV.reflessL [.agg (rcs m b), I q, I a] = true := fun _ => rfl
  have hr3 : ∀ q, AV.reflessL [.agg (rcs m b), I q] = true := fun _ => rfl
  simp -implicitDefEqProofs only [rcs] at hr hr2 hr3
  have h8 := fun n => f18_ok' G X m b n { own := [], up := [], ro := [] }
  have h25 := fun x y => f28_ok G X m b x y { own := [], up := [], ro := [] }
  simp -implicitDefEqProofs only [rcs] at h8 h25
  have hi : ¬ (0 ≤ i ∧ i < 0) := by omega
  by_cases h0 : 0 ≤ i
  · have h1 : ¬ i < 0 := by omega
    simp -implicitDefEqProofs only [rcs, ↓z_ret, ↓z_val, ↓z_pick, ↓z_cond, ↓z_boxRo_agg, ↓z_boxRo_int, ↓z_boxRo_bool, ↓z_boxRo_str, ↓z_boxRo_sl, ↓z_boxRo_fn, ↓z_boxRo_vptr, ↓z_boxRo_ref, ↓z_len_sl, ↓z_len_msl, ↓z_len_str, ↓z_load1, ↓z_fa, ↓z_fa_ref, ↓z_callF, ↓z_andK, ↓z_orK, ↓z_and1, ↓z_and2, ↓z_and3, ↓z_and4, ↓z_and5, ↓z_and6, ↓z_and7, ↓z_and8, ↓z_and9, ↓z_and10, ↓z_and11, ↓z_and12, ↓z_or1, ↓z_or2, ↓z_or3, ↓z_or4, ↓z_or5, ↓z_or6, ↓z_or7, ↓z_or8, ↓z_or9, ↓z_or10, ↓z_or11, ↓z_or12, ↓z_add, ↓z_sub, ↓z_mul, ↓z_eql, ↓z_neq, ↓z_lss, ↓z_leq, ↓z_gtr, ↓z_geq, ↓z_not, ↓z_neg, ↓z_fin_int, ↓z_fin_bool, ↓z_fin_str, ↓z_ent_int, ↓z_ent_bool, ↓z_ent_str, ↓z_stn, ↓z_ldnn, ↓z_ldn0, ↓z_ldn1, ↓z_ldn2, ↓z_ldn3, ↓z_ldn4, ↓z_ldn5, ↓z_ldn6, ↓z_ldn7, ↓z_ldn8, List.drop_zero, List.drop_succ_cons, List.cons_append, List.nil_append, decide_eq_true_eq, decide_eq_false_iff_not, ite_not, ↓reduceIte, pub_agg, pub_int, pub_bool, pub_str, pub_fn, pub_vptr, pub_nilp, Nat.zero_add, List.length_cons, List.length_nil, Nat.reduceAdd, List.all_cons, List.all_nil, isCell_int, isCell_bool, isCell_str, isCell_sl, Bool.and_self, ↓z_loadn, Nat.reduceLeDiff, Nat.le_refl, List.take_succ_cons, List.take_zero, eq_true h0, eq_false h1, decide_true, decide_false, Bool.false_eq_true, Int.natCast_zero, f30_j1_eq _ (PP_ok _ _ _), z_callP (hr3 _) (h8 _) rfl, z_callP (hr2 _) (h25 _ _) rfl, z_call0 (f24_ok G X _ _ _ _ _), rootI]
  · simp -implicitDefEqProofs only [rcs, ↓z_ret, ↓z_val, ↓z_pick, ↓z_cond, ↓z_boxRo_agg, ↓z_boxRo_int, ↓z_boxRo_bool, ↓z_boxRo_str, ↓z_boxRo_sl, ↓z_boxRo_fn, ↓z_boxRo_vptr, ↓z_boxRo_ref, ↓z_len_sl, ↓z_len_msl, ↓z_len_str, ↓z_load1, ↓z_fa, ↓z_fa_ref, ↓z_callF, ↓z_andK, ↓z_orK, ↓z_and1, ↓z_and2, ↓z_and3, ↓z_and4, ↓z_and5, ↓z_and6, ↓z_and7, ↓z_and8, ↓z_and9, ↓z_and10, ↓z_and11, ↓z_and12, ↓z_or1, ↓z_or2, ↓z_or3, ↓z_or4, ↓z_or5, ↓z_or6, ↓z_or7, ↓z_or8, ↓z_or9, ↓z_or10, ↓z_or11, ↓z_or12, ↓z_add, ↓z_sub, ↓z_mul, ↓z_eql, ↓z_neq, ↓z_lss, ↓z_leq, ↓z_gtr, ↓z_geq, ↓z_not, ↓z_neg, ↓z_fin_int, ↓z_fin_bool, ↓z_fin_str, ↓z_ent_int, ↓z_ent_bool, ↓z_ent_str, ↓z_stn, ↓z_ldnn, ↓z_ldn0, ↓z_ldn1, ↓z_ldn2, ↓z_ldn3, ↓z_ldn4, ↓z_ldn5, ↓z_ldn6, ↓z_ldn7, ↓z_ldn8, List.drop_zero, List.drop_succ_cons, List.cons_append, List.nil_append, decide_eq_true_eq, decide_eq_false_iff_not, ite_not, ↓reduceIte, pub_agg, pub_int, pub_bool, pub_str, pub_fn, pub_vptr, pub_nilp, Nat.zero_add, List.length_cons, List.length_nil, Nat.reduceAdd, List.all_cons, List.all_nil, isCell_int, isCell_bool, isCell_str, isCell_sl, Bool.and_self, ↓z_loadn, Nat.reduceLeDiff, Nat.le_refl, List.take_succ_cons, List.take_zero, eq_false h0, decide_true, decide_false, Bool.false_eq_true, f30_j1_eq _ (PP_ok _ _ _), z_callP (hr3 _) (h8 _) rfl, z_callP (hr2 _) (h25 _ _) rfl, z_call0 (f24_ok G X _ _ _ _ _), rootI]
theorem f53_ok (m b n : Int) (s : St) : callω T1 G X 53 [I n, .vptr (rcs m b)] s = .ok (I (redI m n)) s := by
  rw [f53_call, f53_eq]
  simp -implicitDefEqProofs only [rcs, ↓z_ret, ↓z_val, ↓z_pick, ↓z_cond, ↓z_boxRo_agg, ↓z_boxRo_int, ↓z_boxRo_bool, ↓z_boxRo_str, ↓z_boxRo_sl, ↓z_boxRo_fn, ↓z_boxRo_vptr, ↓z_boxRo_ref, ↓z_len_sl, ↓z_len_msl, ↓z_len_str, ↓z_load1, ↓z_fa, ↓z_fa_ref, ↓z_callF, ↓z_andK, ↓z_orK, ↓z_and1, ↓z_and2, ↓z_and3, ↓z_and4, ↓z_and5, ↓z_and6, ↓z_and7, ↓z_and8, ↓z_and9, ↓z_and10, ↓z_and11, ↓z_and12, ↓z_or1, ↓z_or2, ↓z_or3, ↓z_or4, ↓z_or5, ↓z_or6, ↓z_or7, ↓z_or8, ↓z_or9, ↓z_or10, ↓z_or11, ↓z_or12, ↓z_add, ↓z_sub, ↓z_mul, ↓z_eql, ↓z_neq, ↓z_lss, ↓z_leq, ↓z_gtr, ↓z_geq, ↓z_not, ↓z_neg, ↓z_fin_int, ↓z_fin_bool, ↓z_fin_str, ↓z_ent_int, ↓z_ent_bool, ↓z_ent_str, ↓z_stn, ↓z_ldnn, ↓z_ldn0, ↓z_ldn1, ↓z_ldn2, ↓z_ldn3, ↓z_ldn4, ↓z_ldn5, ↓z_ldn6, ↓z_ldn7, ↓z_ldn8, List.drop_zero, List.drop_succ_cons, List.cons_append, List.nil_append, decide_eq_true_eq, decide_eq_false_iff_not, ite_not, ↓reduceIte, pub_agg, pub_int, pub_bool, pub_str, pub_fn, pub_vptr, pub_nilp, Nat.zero_add, List.length_cons, List.length_nil, Nat.reduceAdd, List.all_cons, List.all_nil, isCell_int, isCell_bool, isCell_str, isCell_sl, Bool.and_self, ↓z_loadn, Nat.reduceLeDiff, Nat.le_refl, List.take_succ_cons, List.take_zero, z_call0 (f18_ok' G X _ _ _ _)]
theorem f54_ok (m b x y : Int) (s : St) : callω T1 G X 54 [I x, I y, .vptr (rcs m b)] s = .ok (I (addI m x y)) s := by
  rw [f54_call, f54_eq]
  simp -implicitDefEqProofs only [rcs, ↓z_ret, ↓z_val, ↓z_pick, ↓z_cond, ↓z_boxRo_agg, ↓z_boxRo_int, ↓z_boxRo_bool, ↓z_boxRo_str, ↓z_boxRo_sl, ↓z_boxRo_fn, ↓z_boxRo_vptr, ↓z_boxRo_ref, ↓z_len_sl, ↓z_len_msl, ↓z_len_str, ↓z_load1, ↓z_fa, ↓z_fa_ref, ↓z_callF, ↓z_andK, ↓z_orK, ↓z_and1, ↓z_and2, ↓z_and3, ↓z_and4, ↓z_and5, ↓z_and6, ↓z_and7, ↓z_and8, ↓z_and9, ↓z_and10, ↓z_and11, ↓z_and12, ↓z_or1, ↓z_or2, ↓z_or3, ↓z_or4, ↓z_or5, ↓z_or6, ↓z_or7, ↓z_or8, ↓z_or9, ↓z_or10, ↓z_or11, ↓z_or12, ↓z_add, ↓z_sub, ↓z_mul, ↓z_eql, ↓z_neq, ↓z_lss, ↓z_leq, ↓z_gtr, ↓z_geq, ↓z_not, ↓z_neg, ↓z_fin_int, ↓z_fin_bool, ↓z_fin_str, ↓z_ent_int, ↓z_ent_bool, ↓z_ent_str, ↓z_stn, ↓z_ldnn, ↓z_ldn0, ↓z_ldn1, ↓z_ldn2, ↓z_ldn3, ↓z_ldn4, ↓z_ldn5, ↓z_ldn6, ↓z_ldn7, ↓z_ldn8, List.drop_zero, List.drop_succ_cons, List.cons_append, List.nil_append, decide_eq_true_eq, decide_eq_false_iff_not, ite_not, ↓reduceIte, pub_agg, pub_int, pub_bool, pub_str, pub_fn, pub_vptr, pub_nilp, Nat.zero_add, List.length_cons, List.length_nil, Nat.reduceAdd, List.all_cons, List.all_nil, isCell_int, isCell_bool, isCell_str, isCell_sl, Bool.and_self, ↓z_loadn, Nat.reduceLeDiff, Nat.le_refl, List.take_succ_cons, List.take_zero, z_call0 (f24_ok G X _ _ _ _ _)]
theorem f55_ok (m b x y : Int) (s : St) : callω T1 G X 55 [I x, I y, .vptr (rcs m b)] s = .ok (I (subI m x y)) s := by
  rw [f55_call, f55_eq]
  simp -implicitDefEqProofs only [rcs, ↓z_ret, ↓z_val, ↓z_pick, ↓z_cond, ↓z_boxRo_agg, ↓z_boxRo_int, ↓z_boxRo_bool, ↓z_boxRo_str, ↓z_boxRo_sl, ↓z_boxRo_fn, ↓z_boxRo_vptr, ↓z_boxRo_ref, ↓z_len_sl, ↓z_len_msl, ↓z_len_str, ↓z_load1, ↓z_fa, ↓z_fa_ref, ↓z_callF, ↓z_andK, ↓z_orK, ↓z_and1, ↓z_and2, ↓z_and3, ↓z_and4, ↓z_and5, ↓z_and6, ↓z_and7, ↓z_and8, ↓z_and9, ↓z_and10, ↓z_and11, ↓z_and12, ↓z_or1, ↓z_or2, ↓z_or3, ↓z_or4, ↓z_or5, ↓z_or6, ↓z_or7, ↓z_or8, ↓z_or9, ↓z_or10, ↓z_or11, ↓z_or12, ↓z_add, ↓z_sub, ↓z_mul, ↓z_eql, ↓z_neq, ↓z_lss, ↓z_leq, ↓z_gtr, ↓z_geq, ↓z_not, ↓z_neg, ↓z_fin_int, ↓z_fin_bool, ↓z_fin_str, ↓z_ent_int, ↓z_ent_bool, ↓z_ent_str, ↓z_stn, ↓z_ldnn, ↓z_ldn0, ↓z_ldn1, ↓z_ldn2, ↓z_ldn3, ↓z_ldn4, ↓z_ldn5, ↓z_ldn6, ↓z_ldn7, ↓z_ldn8, List.drop_zero, List.drop_succ_cons, List.cons_append, List.nil_append, decide_eq_true_eq, decide_eq_false_iff_not, ite_not, ↓reduceIte, pub_agg, pub_int, pub_bool, pub_str, pub_fn, pub_vptr, pub_nilp, Nat.zero_add, List.length_cons, List.length_nil, Nat.reduceAdd, List.all_cons, List.all_nil, isCell_int, isCell_bool, isCell_str, isCell_sl, Bool.and_self, ↓z_loadn, Nat.reduceLeDiff, Nat.le_refl, List.take_succ_cons, List.take_zero, z_call0 (f26_ok G X _ _ _ _ _)]
theorem f56_ok (m b x y : Int) (s : St) : callω T1 G X 56 [I x, I y, .vptr (rcs m b)] s = .ok (I (mulI m x y)) s := by
  rw [f56_call, f56_eq]
  simp -implicitDefEqProofs only [rcs, ↓z_ret, ↓z_val, ↓z_pick, ↓z_cond, ↓z_boxRo_agg, ↓z_boxRo_int, ↓z_boxRo_bool, ↓z_boxRo_str, ↓z_boxRo_sl, ↓z_boxRo_fn, ↓z_boxRo_vptr, ↓z_boxRo_ref, ↓z_len_sl, ↓z_len_msl, ↓z_len_str, ↓z_load1, ↓z_fa, ↓z_fa_ref, ↓z_callF, ↓z_andK, ↓z_orK, ↓z_and1, ↓z_and2, ↓z_and3, ↓z_and4, ↓z_and5, ↓z_and6, ↓z_and7, ↓z_and8, ↓z_and9, ↓z_and10, ↓z_and11, ↓z_and12, ↓z_or1, ↓z_or2, ↓z_or3, ↓z_or4, ↓z_or5, ↓z_or6, ↓z_or7, ↓z_or8, ↓z_or9, ↓z_or10, ↓z_or11, ↓z_or12, ↓z_add, ↓z_sub, ↓z_mul, ↓z_eql, ↓z_neq, ↓z_lss, ↓z_leq, ↓z_gtr, ↓z_geq, ↓z_not, ↓z_neg, ↓z_fin_int, ↓z_fin_bool, ↓z_fin_str, ↓z_ent_int, ↓z_ent_bool, ↓z_ent_str, ↓z_stn, ↓z_ldnn, ↓z_ldn0, ↓z_ldn1, ↓z_ldn2, ↓z_ldn3, ↓z_ldn4, ↓z_ldn5, ↓z_ldn6, ↓z_ldn7, ↓z_ldn8, List.drop_zero, List.drop_succ_cons, List.cons_append, List.nil_append, decide_eq_true_eq, decide_eq_false_iff_not, ite_not, ↓reduceIte, pub_agg, pub_int, pub_bool, pub_str, pub_fn, pub_vptr, pub_nilp, Nat.zero_add, List.length_cons, List.length_nil, Nat.reduceAdd, List.all_cons, List.all_nil, isCell_int, isCell_bool, isCell_str, isCell_sl, Bool.and_self, ↓z_loadn, Nat.reduceLeDiff, Nat.le_refl, List.take_succ_cons, List.take_zero, z_call0 (f28_ok G X _ _ _ _ _)]
theorem f57_ok (m b x y : Int) (s : St) : callω T1 G X 57 [I x, I y, .vptr (rcs m b)] s = .ok (I (rootI m b x y)) s := by
  rw [f57_call, f57_eq]
  simp -implicitDefEqProofs only [rcs, ↓z_ret, ↓z_val, ↓z_pick, ↓z_cond, ↓z_boxRo_agg, ↓z_boxRo_int, ↓z_boxRo_bool, ↓z_boxRo_str, ↓z_boxRo_sl, ↓z_boxRo_fn, ↓z_boxRo_vptr, ↓z_boxRo_ref, ↓z_len_sl, ↓z_len_msl, ↓z_len_str, ↓z_load1, ↓z_fa, ↓z_fa_ref, ↓z_callF, ↓z_andK, ↓z_orK, ↓z_and1, ↓z_and2, ↓z_and3, ↓z_and4, ↓z_and5, ↓z_and6, ↓z_and7, ↓z_and8, ↓z_and9, ↓z_and10, ↓z_and11, ↓z_and12, ↓z_or1, ↓z_or2, ↓z_or3, ↓z_or4, ↓z_or5, ↓z_or6, ↓z_or7, ↓z_or8, ↓z_or9, ↓z_or10, ↓z_or11, ↓z_or12, ↓z_add, ↓z_sub, ↓z_mul, ↓z_eql, ↓z_neq, ↓z_lss, ↓z_leq, ↓z_gtr, ↓z_geq, ↓z_not, ↓z_neg, ↓z_fin_int, ↓z_fin_bool, ↓z_fin_str, ↓z_ent_int, ↓z_ent_bool, ↓z_ent_str, ↓z_stn, ↓z_ldnn, ↓z_ldn0, ↓z_ldn1, ↓z_ldn2, ↓z_ldn3, ↓z_ldn4, ↓z_ldn5, ↓z_ldn6, ↓z_ldn7, ↓z_ldn8, List.drop_zero, List.drop_succ_cons, List.cons_append, List.nil_append, decide_eq_true_eq, decide_eq_false_iff_not, ite_not, ↓reduceIte, pub_agg, pub_int, pub_bool, pub_str, pub_fn, pub_vptr, pub_nilp, Nat.zero_add, List.length_cons, List.length_nil, Nat.reduceAdd, List.all_cons, List.all_nil, isCell_int, isCell_bool, isCell_str, isCell_sl, Bool.and_self, ↓z_loadn, Nat.reduceLeDiff, Nat.le_refl, List.take_succ_cons, List.take_zero, z_call0 (f30_ok G X _ _ _ _ _)]
def ringCs (m b : Int) : List AV := [.fn 53 [.vptr (rcs m b)], .fn 54 [.vptr (rcs m b)], .fn 55 [.vptr (rcs m b)], .fn 56 [.vptr (rcs m b)], .fn 57 [.vptr (rcs m b)]]
theorem f20_ok (m b : Int) : callω T1 G X 20 [.agg (rcs m b)] { own := [], up := [], ro := [] } = .ok (.agg (ringCs m b)) { own := [], up := [], ro := [] } := by
  rw [f20_call, f20_eq]
  rfl
end Go.AbZ
end
section
namespace Go.AbZ
open Go.Ab
variable (G : Nat → AV) (X : Nat → List AV → St → Res)
set_option linter.unusedSimpArgs false
set_option linter.unusedVariables false
/-- A frame's state over another caller's state. -/
def reup (S s : St) : St := { own := S.own, up := s.own :: s.up, ro := s.ro }
theorem reup_child (S s : St) : Child s (reup S s) := ⟨rfl, rfl⟩
theorem reup_own (S s : St) : (reup S s).own = S.own := rfl
theorem reup_self {s S : St} (h : Child s S) : reup S s = S := by
  obtain ⟨h1, h2⟩ := h
  cases S
  simp -implicitDefEqProofs only at h1 h2
  simp -implicitDefEqProofs only [reup, h1, h2]
/-- Five functions that are a ring, and what calling them leaves in the frames behind. -/
structure RingOK (R : Ops) (σ : List Int → St) (fc fa fs fm fr : AV) : Prop where
  c : ∀ l n S (k : K1), l.length < 9000 → Child (σ l) S → (PP T1 G X).callF S k fc [I n] = k (I (R.c n)) (reup S (σ (l ++ [2])))
  add : ∀ l x y S (k : K1), l.length < 9000 → Child (σ l) S → (PP T1 G X).callF S k fa [I x, I y] = k (I (R.add x y)) (reup S (σ (l ++ [3])))
  sub : ∀ l x y S (k : K1), l.length < 9000 → Child (σ l) S → (PP T1 G X).callF S k fs [I x, I y] = k (I (R.sub x y)) (reup S (σ (l ++ [4])))
  mul : ∀ l x y S (k : K1), l.length < 9000 → Child (σ l) S → (PP T1 G X).callF S k fm [I x, I y] = k (I (R.mul x y)) (reup S (σ (l ++ [5])))
  root : ∀ l x y S (k : K1), l.length < 9000 → Child (σ l) S → (PP T1 G X).callF S k fr [I x, I y] = k (I (R.root x y)) (reup S (σ (l ++ [6])))
/-- A slice of numbers that is read. -/
structure InOK (σ : List Int → St) (v : AV) (inp : List Int) : Prop where
  len : ∀ l S (k : K1), Child (σ l) S → (PP T1 G X).len S k false v = k (I inp.length) S
  get : ∀ l (a : Int) S (k : K1), Child (σ l) S → 0 ≤ a → a < inp.length → (PP T1 G X).idx S (fun v S => (PP T1 G X).load S k none v) 1 v (.int .i64 a) = k (I (inp.getD a.toNat 0)) S
theorem inOK_sl (σ : List Int → St) (inp : List Int) (g : Gr) : InOK G X σ (sl1 inp g) inp where
  len := fun l S k _ => by simp -implicitDefEqProofs only [sl1, ↓z_ret, ↓z_val, ↓z_pick, ↓z_cond, ↓z_boxRo_agg, ↓z_boxRo_int, ↓z_boxRo_bool, ↓z_boxRo_str, ↓z_boxRo_sl, ↓z_boxRo_fn, ↓z_boxRo_vptr, ↓z_boxRo_ref, ↓z_len_sl, ↓z_len_msl, ↓z_len_str, ↓z_load1, ↓z_fa, ↓z_fa_ref, ↓z_callF, ↓z_andK, ↓z_orK, ↓z_and1, ↓z_and2, ↓z_and3, ↓z_and4, ↓z_and5, ↓z_and6, ↓z_and7, ↓z_and8, ↓z_and9, ↓z_and10, ↓z_and11, ↓z_and12, ↓z_or1, ↓z_or2, ↓z_or3, ↓z_or4, ↓z_or5, ↓z_or6, ↓z_or7, ↓z_or8, ↓z_or9, ↓z_or10, ↓z_or11, ↓z_or12, ↓z_add, ↓z_sub, ↓z_mul, ↓z_eql, ↓z_neq, ↓z_lss, ↓z_leq, ↓z_gtr, ↓z_geq, ↓z_not, ↓z_neg, ↓z_fin_int, ↓z_fin_bool, ↓z_fin_str, ↓z_ent_int, ↓z_ent_bool, ↓z_ent_str, ↓z_stn, ↓z_ldnn, ↓z_ldn0, ↓z_ldn1, ↓z_ldn2, ↓z_ldn3, ↓z_ldn4, ↓z_ldn5, ↓z_ldn6, ↓z_ldn7, ↓z_ldn8, List.drop_zero, List.drop_succ_cons, List.cons_append, List.nil_append, decide_eq_true_eq, decide_eq_false_iff_not, ite_not, ↓reduceIte, pub_agg, pub_int, pub_bool, pub_str, pub_fn, pub_vptr, pub_nilp, Nat.zero_add, List.length_cons, List.length_nil, Nat.reduceAdd, List.all_cons, List.all_nil, isCell_int, isCell_bool, isCell_str, isCell_sl, Bool.and_self, ↓z_loadn, Nat.reduceLeDiff, Nat.le_refl, List.take_succ_cons, List.take_zero, List.length_map]
  get := fun l a S k _ h0 h1 => by
    rw [sl1, idx_out G X inp g a h0 h1]
    simp -implicitDefEqProofs only [↓z_ret, ↓z_val, ↓z_pick, ↓z_cond, ↓z_boxRo_agg, ↓z_boxRo_int, ↓z_boxRo_bool, ↓z_boxRo_str, ↓z_boxRo_sl, ↓z_boxRo_fn, ↓z_boxRo_vptr, ↓z_boxRo_ref, ↓z_len_sl, ↓z_len_msl, ↓z_len_str, ↓z_load1, ↓z_fa, ↓z_fa_ref, ↓z_callF, ↓z_andK, ↓z_orK, ↓z_and1, ↓z_and2, ↓z_and3, ↓z_and4, ↓z_and5, ↓z_and6, ↓z_and7, ↓z_and8, ↓z_and9, ↓z_and10, ↓z_and11, ↓z_and12, ↓z_or1, ↓z_or2, ↓z_or3, ↓z_or4, ↓z_or5, ↓z_or6, ↓z_or7, ↓z_or8, ↓z_or9, ↓z_or10, ↓z_or11, ↓z_or12, ↓z_add, ↓z_sub, ↓z_mul, ↓z_eql, ↓z_neq, ↓z_lss, ↓z_leq, ↓z_gtr, ↓z_geq, ↓z_not, ↓z_neg, ↓z_fin_int, ↓z_fin_bool, ↓z_fin_str, ↓z_ent_int, ↓z_ent_bool, ↓z_ent_str, ↓z_stn, ↓z_ldnn, ↓z_ldn0, ↓z_ldn1, ↓z_ldn2, ↓z_ldn3, ↓z_ldn4, ↓z_ldn5, ↓z_ldn6, ↓z_ldn7, ↓z_ldn8, List.drop_zero, List.drop_succ_cons, List.cons_append, List.nil_append, decide_eq_true_eq, decide_eq_false_iff_not, ite_not, ↓reduceIte, pub_agg, pub_int, pub_bool, pub_str, pub_fn, pub_vptr, pub_nilp, Nat.zero_add, List.length_cons, List.length_nil, Nat.reduceAdd, List.all_cons, List.all_nil, isCell_int, isCell_bool, isCell_str, isCell_sl, Bool.and_self, ↓z_loadn, Nat.reduceLeDiff, Nat.le_refl, List.take_succ_cons, List.take_zero]
theorem inOK_own (s : St) (j : Nat) (inp : List Int) (n : Nat) (hn : n = inp.length) (h : s.own[j]? = some (.cells (inp.map I))) : InOK G X (fun _ => s) (.msl (.g s.depth j) 0 n n 1) inp where
  len := fun l S k _ => by subst hn; rfl
  get := fun l a S k hS h0 h1 => by
    subst hn
    obtain ⟨b, rfl⟩ := Int.eq_ofNat_of_zero_le h0
    have hb : b < inp.length := by omega
    rw [z_idx_msl (.g s.depth j) 0 inp.length inp.length 1 .i64 b hb, zz_load]
    have hd : S.depth = s.depth + 1 := by simp [St.depth, hS.up, hS.ro]; omega
    have hg : S.get (.g s.depth j) = some (.cells (inp.map I)) := by
      simp -implicitDefEqProofs only [St.get, hd]
      rw [if_neg (by omega), if_pos (by omega)]
      simp [hS.up, h]
    simp -implicitDefEqProofs only [loadOp, hg, loadV]
    have e : (inp.map I).drop (0 + b * 1) = I inp[b] :: (inp.map I).drop (b + 1) := by
      rw [Nat.zero_add, Nat.mul_one, List.drop_eq_getElem_cons (by simpa using hb)]
      simp
    rw [e]
    have e2 : inp.getD (Int.toNat (b : Int)) 0 = inp[b] := by simp [List.getD, hb]
    rw [e2]
    rfl
/-- The calls of an instruction, and of a program. -/
def log1 (x : Ins) : List Int := if x.op = 1 then [] else [x.op]
def logs : List Ins → List Int
  | [] => []
  | x :: xs => log1 x ++ logs xs
theorem log1_op {x : Ins} {n : Int} (h : x.op = n) (hn : n ≠ 1) : log1 x = [n] := by unfold log1; rw [h, if_neg hn]
section
variable {R : Ops} {σ : List Int → St} {fc fa fs fm fr : AV} (hR : RingOK G X R σ fc fa fs fm fr)
include hR
theorem f19_j4_ok (inp : List Int) (vi : AV) (hI : InOK G X σ vi inp) (v29 v30 : AV) (ins : List AV) (gs : Gr) (x : Ins) (out : List Int) (nr j n : Nat) (l : List Int) (hl : l.length < 9000) (S : St) (hS : Child (σ l) S) (hg : S.own[j]? = some (.cells (full out n))) (Res0 : Res)
    (hnr : nr < 9000) (hv : v29 = .sl 3 ins gs) (hx : ins[out.length]? = some x.enc) (hok : okIns x out.length inp.length = true)
    (hk : ∀ S', Child (σ (l ++ log1 x)) S' → S'.own = (S.new (.cells [I x.op, I x.a, I x.b])).own → f19_j5 (PP T1 G X) vi (.vptr [fc, fa, fs, fm, fr]) (.msl (.l j) 0 out.length n 1) (I (nextR x nr : Nat)) (I (valR R inp out nr x)) v29 v30 (.int .i64 (out.length : Int)) S' = Res0) :
    f19_j4 (PP T1 G X) vi (.vptr [fc, fa, fs, fm, fr]) (.msl (.l j) 0 out.length n 1) (.int .i64 (nr : Int)) v29 v30 (.int .i64 (out.length : Int)) S = Res0 := by
  subst hv
  rw [f19_j4_eq _ (PP_ok _ _ _)]
  have hg' := own_new hg (.cells [I x.op, I x.a, I x.b])
  have hS' := hS.new (.cells [I x.op, I x.a, I x.b])
  have hop := okIns_op hok
  unfold okIns at hok
  by_cases h1 : x.op = 1
  · have q1 := eq_true h1
    simp -implicitDefEqProofs only [q1, ↓reduceIte, decide_eq_true_eq] at hok
    have hk0 := hk (S.new (.cells [I x.op, I x.a, I x.b])) (by simpa only [log1, q1, if_true, List.append_nil] using hS') rfl
    have e6 : ¬ x.op = 6 := by omega
    simp -implicitDefEqProofs only [nextR, eq_false e6, valR, q1, if_true, if_false] at hk0
    simp -implicitDefEqProofs only [↓z_ret, ↓z_val, ↓z_pick, ↓z_cond, ↓z_boxRo_agg, ↓z_boxRo_int, ↓z_boxRo_bool, ↓z_boxRo_str, ↓z_boxRo_sl, ↓z_boxRo_fn, ↓z_boxRo_vptr, ↓z_boxRo_ref, ↓z_len_sl, ↓z_len_msl, ↓z_len_str, ↓z_load1, ↓z_fa, ↓z_fa_ref, ↓z_callF, ↓z_andK, ↓z_orK, ↓z_and1, ↓z_and2, ↓z_and3, ↓z_and4, ↓z_and5, ↓z_and6, ↓z_and7, ↓z_and8, ↓z_and9, ↓z_and10, ↓z_and11, ↓z_and12, ↓z_or1, ↓z_or2, ↓z_or3, ↓z_or4, ↓z_or5, ↓z_or6, ↓z_or7, ↓z_or8, ↓z_or9, ↓z_or10, ↓z_or11, ↓z_or12, ↓z_add, ↓z_sub, ↓z_mul, ↓z_eql, ↓z_neq, ↓z_lss, ↓z_leq, ↓z_gtr, ↓z_geq, ↓z_not, ↓z_neg, ↓z_fin_int, ↓z_fin_bool, ↓z_fin_str, ↓z_ent_int, ↓z_ent_bool, ↓z_ent_str, ↓z_stn, ↓z_ldnn, ↓z_ldn0, ↓z_ldn1, ↓z_ldn2, ↓z_ldn3, ↓z_ldn4, ↓z_ldn5, ↓z_ldn6, ↓z_ldn7, ↓z_ldn8, List.drop_zero, List.drop_succ_cons, List.cons_append, List.nil_append, decide_eq_true_eq, decide_eq_false_iff_not, ite_not, ↓reduceIte, pub_agg, pub_int, pub_bool, pub_str, pub_fn, pub_vptr, pub_nilp, Nat.zero_add, List.length_cons, List.length_nil, Nat.reduceAdd, List.all_cons, List.all_nil, isCell_int, isCell_bool, isCell_str, isCell_sl, Bool.and_self, ↓z_loadn, Nat.reduceLeDiff, Nat.le_refl, List.take_succ_cons, List.take_zero, z_idx _ _ _ _ _ _ hx, Ins.enc, Ins.cs, AV.cells, q1, decide_true, hI.get l _ _ _ hS' hok.1 hok.2.1]
    exact hk0
  have q1 := eq_false h1
  by_cases h2 : x.op = 2
  · have q2 := eq_true h2
    have hk0 := hk (reup (S.new (.cells [I x.op, I x.a, I x.b])) (σ (l ++ [2]))) (by rw [log1_op h2 (by omega)]; exact reup_child _ _) rfl
    have e6 : ¬ x.op = 6 := by omega
    simp -implicitDefEqProofs only [nextR, eq_false e6, valR, q1, q2, if_true, if_false] at hk0
    simp -implicitDefEqProofs only [↓z_ret, ↓z_val, ↓z_pick, ↓z_cond, ↓z_boxRo_agg, ↓z_boxRo_int, ↓z_boxRo_bool, ↓z_boxRo_str, ↓z_boxRo_sl, ↓z_boxRo_fn, ↓z_boxRo_vptr, ↓z_boxRo_ref, ↓z_len_sl, ↓z_len_msl, ↓z_len_str, ↓z_load1, ↓z_fa, ↓z_fa_ref, ↓z_callF, ↓z_andK, ↓z_orK, ↓z_and1, ↓z_and2, ↓z_and3, ↓z_and4, ↓z_and5, ↓z_and6, ↓z_and7, ↓z_and8, ↓z_and9, ↓z_and10, ↓z_and11, ↓z_and12, ↓z_or1, ↓z_or2, ↓z_or3, ↓z_or4, ↓z_or5, ↓z_or6, ↓z_or7, ↓z_or8, ↓z_or9, ↓z_or10, ↓z_or11, ↓z_or12, ↓z_add, ↓z_sub, ↓z_mul, ↓z_eql, ↓z_neq, ↓z_lss, ↓z_leq, ↓z_gtr, ↓z_geq, ↓z_not, ↓z_neg, ↓z_fin_int, ↓z_fin_bool, ↓z_fin_str, ↓z_ent_int, ↓z_ent_bool, ↓z_ent_str, ↓z_stn, ↓z_ldnn, ↓z_ldn0, ↓z_ldn1, ↓z_ldn2, ↓z_ldn3, ↓z_ldn4, ↓z_ldn5, ↓z_ldn6, ↓z_ldn7, ↓z_ldn8, List.drop_zero, List.drop_succ_cons, List.cons_append, List.nil_append, decide_eq_true_eq, decide_eq_false_iff_not, ite_not, ↓reduceIte, pub_agg, pub_int, pub_bool, pub_str, pub_fn, pub_vptr, pub_nilp, Nat.zero_add, List.length_cons, List.length_nil, Nat.reduceAdd, List.all_cons, List.all_nil, isCell_int, isCell_bool, isCell_str, isCell_sl, Bool.and_self, ↓z_loadn, Nat.reduceLeDiff, Nat.le_refl, List.take_succ_cons, List.take_zero, z_idx _ _ _ _ _ _ hx, Ins.enc, Ins.cs, AV.cells, q1, q2, decide_true, decide_false, Bool.false_eq_true, hR.c l _ _ _ hl hS']
    exact hk0
  have q2 := eq_false h2
  by_cases h3 : x.op = 3
  · have q3 := eq_true h3
    have h3' : x.op = 3 ∨ x.op = 4 ∨ x.op = 5 := by omega
    simp -implicitDefEqProofs only [q1, q2, eq_true h3', ↓reduceIte, decide_eq_true_eq] at hok
    have la := fun k => ld_own G X out j n x.a.toNat (by omega) k _ hg'
    have lb := fun k => ld_own G X out j n x.b.toNat (by omega) k _ hg'
    simp -implicitDefEqProofs only [Nat.zero_add] at la lb
    have hk0 := hk (reup (S.new (.cells [I x.op, I x.a, I x.b])) (σ (l ++ [3]))) (by rw [log1_op h3 (by omega)]; exact reup_child _ _) rfl
    have e6 : ¬ x.op = 6 := by omega
    simp -implicitDefEqProofs only [nextR, eq_false e6, valR, q1, q2, q3, if_true, if_false] at hk0
    simp -implicitDefEqProofs only [↓z_ret, ↓z_val, ↓z_pick, ↓z_cond, ↓z_boxRo_agg, ↓z_boxRo_int, ↓z_boxRo_bool, ↓z_boxRo_str, ↓z_boxRo_sl, ↓z_boxRo_fn, ↓z_boxRo_vptr, ↓z_boxRo_ref, ↓z_len_sl, ↓z_len_msl, ↓z_len_str, ↓z_load1, ↓z_fa, ↓z_fa_ref, ↓z_callF, ↓z_andK, ↓z_orK, ↓z_and1, ↓z_and2, ↓z_and3, ↓z_and4, ↓z_and5, ↓z_and6, ↓z_and7, ↓z_and8, ↓z_and9, ↓z_and10, ↓z_and11, ↓z_and12, ↓z_or1, ↓z_or2, ↓z_or3, ↓z_or4, ↓z_or5, ↓z_or6, ↓z_or7, ↓z_or8, ↓z_or9, ↓z_or10, ↓z_or11, ↓z_or12, ↓z_add, ↓z_sub, ↓z_mul, ↓z_eql, ↓z_neq, ↓z_lss, ↓z_leq, ↓z_gtr, ↓z_geq, ↓z_not, ↓z_neg, ↓z_fin_int, ↓z_fin_bool, ↓z_fin_str, ↓z_ent_int, ↓z_ent_bool, ↓z_ent_str, ↓z_stn, ↓z_ldnn, ↓z_ldn0, ↓z_ldn1, ↓z_ldn2, ↓z_ldn3, ↓z_ldn4, ↓z_ldn5, ↓z_ldn6, ↓z_ldn7, ↓z_ldn8, List.drop_zero, List.drop_succ_cons, List.cons_append, List.nil_append, decide_eq_true_eq, decide_eq_false_iff_not, ite_not, ↓reduceIte, pub_agg, pub_int, pub_bool, pub_str, pub_fn, pub_vptr, pub_nilp, Nat.zero_add, List.length_cons, List.length_nil, Nat.reduceAdd, List.all_cons, List.all_nil, isCell_int, isCell_bool, isCell_str, isCell_sl, Bool.and_self, ↓z_loadn, Nat.reduceLeDiff, Nat.le_refl, List.take_succ_cons, List.take_zero, z_idx _ _ _ _ _ _ hx, Ins.enc, Ins.cs, AV.cells, q1, q2, q3, decide_true, decide_false, Bool.false_eq_true, idx_own G X _ _ _ _ hok.1.1 hok.1.2, idx_own G X _ _ _ _ hok.2.1 hok.2.2, ↓la, ↓lb, hR.add l _ _ _ _ hl hS']
    exact hk0
  have q3 := eq_false h3
  by_cases h4 : x.op = 4
  · have q4 := eq_true h4
    have h3' : x.op = 3 ∨ x.op = 4 ∨ x.op = 5 := by omega
    simp -implicitDefEqProofs only [q1, q2, eq_true h3', ↓reduceIte, decide_eq_true_eq] at hok
    have la := fun k => ld_own G X out j n x.a.toNat (by omega) k _ hg'
    have lb := fun k => ld_own G X out j n x.b.toNat (by omega) k _ hg'
    simp -implicitDefEqProofs only [Nat.zero_add] at la lb
    have hk0 := hk (reup (S.new (.cells [I x.op, I x.a, I x.b])) (σ (l ++ [4]))) (by rw [log1_op h4 (by omega)]; exact reup_child _ _) rfl
    have e6 : ¬ x.op = 6 := by omega
    simp -implicitDefEqProofs only [nextR, eq_false e6, valR, q1, q2, q3, q4, if_true, if_false] at hk0
    simp -implicitDefEqProofs only [↓z_ret, ↓z_val, ↓z_pick, ↓z_cond, ↓z_boxRo_agg, ↓z_boxRo_int, ↓z_boxRo_bool, ↓z_boxRo_str, ↓z_boxRo_sl, ↓z_boxRo_fn, ↓z_boxRo_vptr, ↓z_boxRo_ref, ↓z_len_sl, ↓z_len_msl, ↓z_len_str, ↓z_load1, ↓z_fa, ↓z_fa_ref, ↓z_callF, ↓z_andK, ↓z_orK, ↓z_and1, ↓z_and2, ↓z_and3, ↓z_and4, ↓z_and5, ↓z_and6, ↓z_and7, ↓z_and8, ↓z_and9, ↓z_and10, ↓z_and11, ↓z_and12, ↓z_or1, ↓z_or2, ↓z_or3, ↓z_or4, ↓z_or5, ↓z_or6, ↓z_or7, ↓z_or8, ↓z_or9, ↓z_or10, ↓z_or11, ↓z_or12, ↓z_add, ↓z_sub, ↓z_mul, ↓z_eql, ↓z_neq, ↓z_lss, ↓z_leq, ↓z_gtr, ↓z_geq, ↓z_not, ↓z_neg, ↓z_fin_int, ↓z_fin_bool, ↓z_fin_str, ↓z_ent_int, ↓z_ent_bool, ↓z_ent_str, ↓z_stn, ↓z_ldnn, ↓z_ldn0, ↓z_ldn1, ↓z_ldn2, ↓z_ldn3, ↓z_ldn4, ↓z_ldn5, ↓z_ldn6, ↓z_ldn7, ↓z_ldn8, List.drop_zero, List.drop_succ_cons, List.cons_append, List.nil_append, decide_eq_true_eq, decide_eq_false_iff_not, ite_not, ↓reduceIte, pub_agg, pub_int, pub_bool, pub_str, pub_fn, pub_vptr, pub_nilp, Nat.zero_add, List.length_cons, List.length_nil, Nat.reduceAdd, List.all_cons, List.all_nil, isCell_int, isCell_bool, isCell_str, isCell_sl, Bool.and_self, ↓z_loadn, Nat.reduceLeDiff, Nat.le_refl, List.take_succ_cons, List.take_zero, z_idx _ _ _ _ _ _ hx, Ins.enc, Ins.cs, AV.cells, q1, q2, q3, q4, decide_true, decide_false, Bool.false_eq_true, idx_own G X _ _ _ _ hok.1.1 hok.1.2, idx_own G X _ _ _ _ hok.2.1 hok.2.2, ↓la, ↓lb, hR.sub l _ _ _ _ hl hS']
    exact hk0
  have q4 := eq_false h4
  by_cases h5 : x.op = 5
  · have q5 := eq_true h5
    have h3' : x.op = 3 ∨ x.op = 4 ∨ x.op = 5 := by omega
    simp -implicitDefEqProofs only [q1, q2, eq_true h3', ↓reduceIte, decide_eq_true_eq] at hok
    have la := fun k => ld_own G X out j n x.a.toNat (by omega) k _ hg'
    have lb := fun k => ld_own G X out j n x.b.toNat (by omega) k _ hg'
    simp -implicitDefEqProofs only [Nat.zero_add] at la lb
    have hk0 := hk (reup (S.new (.cells [I x.op, I x.a, I x.b])) (σ (l ++ [5]))) (by rw [log1_op h5 (by omega)]; exact reup_child _ _) rfl
    have e6 : ¬ x.op = 6 := by omega
    simp -implicitDefEqProofs only [nextR, eq_false e6, valR, q1, q2, q3, q4, q5, if_true, if_false] at hk0
    simp -implicitDefEqProofs only [↓z_ret, ↓z_val, ↓z_pick, ↓z_cond, ↓z_boxRo_agg, ↓z_boxRo_int, ↓z_boxRo_bool, ↓z_boxRo_str, ↓z_boxRo_sl, ↓z_boxRo_fn, ↓z_boxRo_vptr, ↓z_boxRo_ref, ↓z_len_sl, ↓z_len_msl, ↓z_len_str, ↓z_load1, ↓z_fa, ↓z_fa_ref, ↓z_callF, ↓z_andK, ↓z_orK, ↓z_and1, ↓z_and2, ↓z_and3, ↓z_and4, ↓z_and5, ↓z_and6, ↓z_and7, ↓z_and8, ↓z_and9, ↓z_and10, ↓z_and11, ↓z_and12, ↓z_or1, ↓z_or2, ↓z_or3, ↓z_or4, ↓z_or5, ↓z_or6, ↓z_or7, ↓z_or8, ↓z_or9, ↓z_or10, ↓z_or11, ↓z_or12, ↓z_add, ↓z_sub, ↓z_mul, ↓z_eql, ↓z_neq, ↓z_lss, ↓z_leq, ↓z_gtr, ↓z_geq, ↓z_not, ↓z_neg, ↓z_fin_int, ↓z_fin_bool, ↓z_fin_str, ↓z_ent_int, ↓z_ent_bool, ↓z_ent_str, ↓z_stn, ↓z_ldnn, ↓z_ldn0, ↓z_ldn1, ↓z_ldn2, ↓z_ldn3, ↓z_ldn4, ↓z_ldn5, ↓z_ldn6, ↓z_ldn7, ↓z_ldn8, List.drop_zero, List.drop_succ_cons, List.cons_append, List.nil_append, decide_eq_true_eq, decide_eq_false_iff_not, ite_not, ↓reduceIte, pub_agg, pub_int, pub_bool, pub_str, pub_fn, pub_vptr, pub_nilp, Nat.zero_add, List.length_cons, List.length_nil, Nat.reduceAdd, List.all_cons, List.all_nil, isCell_int, isCell_bool, isCell_str, isCell_sl, Bool.and_self, ↓z_loadn, Nat.reduceLeDiff, Nat.le_refl, List.take_succ_cons, List.take_zero, z_idx _ _ _ _ _ _ hx, Ins.enc, Ins.cs, AV.cells, q1, q2, q3, q4, q5, decide_true, decide_false, Bool.false_eq_true, idx_own G X _ _ _ _ hok.1.1 hok.1.2, idx_own G X _ _ _ _ hok.2.1 hok.2.2, ↓la, ↓lb, hR.mul l _ _ _ _ hl hS']
    exact hk0
  have q5 := eq_false h5
  have h6 : x.op = 6 := by omega
  have q6 := eq_true h6
  have h3' : ¬ (x.op = 3 ∨ x.op = 4 ∨ x.op = 5) := by omega
  simp -implicitDefEqProofs only [q1, q2, eq_false h3', q6, ↓reduceIte, decide_eq_true_eq] at hok
  have la := fun k => ld_own G X out j n x.a.toNat (by omega) k _ hg'
  simp -implicitDefEqProofs only [Nat.zero_add] at la
  have hk0 := hk (reup (S.new (.cells [I x.op, I x.a, I x.b])) (σ (l ++ [6]))) (by rw [log1_op h6 (by omega)]; exact reup_child _ _) rfl
  simp -implicitDefEqProofs only [nextR, valR, q1, q2, q3, q4, q5, q6, if_true, if_false] at hk0
  have hw : IntKind.wrap .i64 ((nr : Int) + 1) = ((nr + 1 : Nat) : Int) := wrap_succ nr (by omega)
  simp -implicitDefEqProofs only [↓z_ret, ↓z_val, ↓z_pick, ↓z_cond, ↓z_boxRo_agg, ↓z_boxRo_int, ↓z_boxRo_bool, ↓z_boxRo_str, ↓z_boxRo_sl, ↓z_boxRo_fn, ↓z_boxRo_vptr, ↓z_boxRo_ref, ↓z_len_sl, ↓z_len_msl, ↓z_len_str, ↓z_load1, ↓z_fa, ↓z_fa_ref, ↓z_callF, ↓z_andK, ↓z_orK, ↓z_and1, ↓z_and2, ↓z_and3, ↓z_and4, ↓z_and5, ↓z_and6, ↓z_and7, ↓z_and8, ↓z_and9, ↓z_and10, ↓z_and11, ↓z_and12, ↓z_or1, ↓z_or2, ↓z_or3, ↓z_or4, ↓z_or5, ↓z_or6, ↓z_or7, ↓z_or8, ↓z_or9, ↓z_or10, ↓z_or11, ↓z_or12, ↓z_add, ↓z_sub, ↓z_mul, ↓z_eql, ↓z_neq, ↓z_lss, ↓z_leq, ↓z_gtr, ↓z_geq, ↓z_not, ↓z_neg, ↓z_fin_int, ↓z_fin_bool, ↓z_fin_str, ↓z_ent_int, ↓z_ent_bool, ↓z_ent_str, ↓z_stn, ↓z_ldnn, ↓z_ldn0, ↓z_ldn1, ↓z_ldn2, ↓z_ldn3, ↓z_ldn4, ↓z_ldn5, ↓z_ldn6, ↓z_ldn7, ↓z_ldn8, List.drop_zero, List.drop_succ_cons, List.cons_append, List.nil_append, decide_eq_true_eq, decide_eq_false_iff_not, ite_not, ↓reduceIte, pub_agg, pub_int, pub_bool, pub_str, pub_fn, pub_vptr, pub_nilp, Nat.zero_add, List.length_cons, List.length_nil, Nat.reduceAdd, List.all_cons, List.all_nil, isCell_int, isCell_bool, isCell_str, isCell_sl, Bool.and_self, ↓z_loadn, Nat.reduceLeDiff, Nat.le_refl, List.take_succ_cons, List.take_zero, z_idx _ _ _ _ _ _ hx, Ins.enc, Ins.cs, AV.cells, q1, q2, q3, q4, q5, q6, decide_true, decide_false, Bool.false_eq_true, idx_own G X _ _ _ _ hok.1.1 hok.1.2, ↓la, hR.root l _ _ _ _ hl hS', hw]
  exact hk0
theorem f19_l3_ok (p : Prog) (inp : List Int) (vi : AV) (hI : InOK G X σ vi inp) (h8 : p.ins.length ≤ 8192) (hin : (inp.length : Int) = p.inputs) (j : Nat) : ∀ (n i nr : Nat) (out : List Int) (l : List Int), i + n = p.ins.length → out.length = i → nr ≤ i → l.length ≤ i → okAll p.inputs (p.ins.drop i) i = true → ∀ (S : St), Child (σ l) S → S.own[j]? = some (.cells (full out p.ins.length)) →
    f19_l3 (PP T1 G X) vi (.vptr [fc, fa, fs, fm, fr]) (.msl (.l j) 0 i p.ins.length 1) (.int .i64 (nr : Int)) (.sl 3 (p.ins.map Ins.enc) p.gi) (I p.ins.length) (.int .i64 (i : Int)) S
      = .ok (.tup [sl1 (runR R inp (p.ins.drop i) nr out) .exact, I 0]) (σ (l ++ logs (p.ins.drop i))) := by
  intro n
  induction n with
  | zero =>
    intro i nr out l hi ho hnr hll ha S hS hg
    have h : ¬ ((i : Int) < (p.ins.length : Int)) := by omega
    rw [f19_l3_eq _ (PP_ok _ _ _)]
    have hio : out.length = p.ins.length := by omega
    rw [← hio, full_full] at hg
    have hfz : Ab.freeze S (.msl (.l j) 0 out.length out.length 1) = some (.sl 1 (out.map I) .exact) := freeze_msl hg (by simp) (refless_ints out) (by
      intro e he
      obtain ⟨a, _, rfl⟩ := List.mem_map.1 he
      rfl)
    simp -implicitDefEqProofs only [↓z_ret, ↓z_val, ↓z_pick, ↓z_cond, ↓z_boxRo_agg, ↓z_boxRo_int, ↓z_boxRo_bool, ↓z_boxRo_str, ↓z_boxRo_sl, ↓z_boxRo_fn, ↓z_boxRo_vptr, ↓z_boxRo_ref, ↓z_len_sl, ↓z_len_msl, ↓z_len_str, ↓z_load1, ↓z_fa, ↓z_fa_ref, ↓z_callF, ↓z_andK, ↓z_orK, ↓z_and1, ↓z_and2, ↓z_and3, ↓z_and4, ↓z_and5, ↓z_and6, ↓z_and7, ↓z_and8, ↓z_and9, ↓z_and10, ↓z_and11, ↓z_and12, ↓z_or1, ↓z_or2, ↓z_or3, ↓z_or4, ↓z_or5, ↓z_or6, ↓z_or7, ↓z_or8, ↓z_or9, ↓z_or10, ↓z_or11, ↓z_or12, ↓z_add, ↓z_sub, ↓z_mul, ↓z_eql, ↓z_neq, ↓z_lss, ↓z_leq, ↓z_gtr, ↓z_geq, ↓z_not, ↓z_neg, ↓z_fin_int, ↓z_fin_bool, ↓z_fin_str, ↓z_ent_int, ↓z_ent_bool, ↓z_ent_str, ↓z_stn, ↓z_ldnn, ↓z_ldn0, ↓z_ldn1, ↓z_ldn2, ↓z_ldn3, ↓z_ldn4, ↓z_ldn5, ↓z_ldn6, ↓z_ldn7, ↓z_ldn8, List.drop_zero, List.drop_succ_cons, List.cons_append, List.nil_append, decide_eq_true_eq, decide_eq_false_iff_not, ite_not, ↓reduceIte, pub_agg, pub_int, pub_bool, pub_str, pub_fn, pub_vptr, pub_nilp, Nat.zero_add, List.length_cons, List.length_nil, Nat.reduceAdd, List.all_cons, List.all_nil, isCell_int, isCell_bool, isCell_str, isCell_sl, Bool.and_self, ↓z_loadn, Nat.reduceLeDiff, Nat.le_refl, List.take_succ_cons, List.take_zero, eq_false h, decide_false, Bool.false_eq_true, f19_j7_eq _ (PP_ok _ _ _)]
    rw [List.drop_of_length_le (by omega), ← hio, ← ho, z_finC2 hS _ _ _ _ hfz rfl]
    simp -implicitDefEqProofs only [runR, logs, List.append_nil, sl1]
  | succ n ih =>
    intro i nr out l hi ho hnr hll ha S hS hg
    have h : (i : Int) < (p.ins.length : Int) := by omega
    have hlt : i < p.ins.length := by omega
    obtain ⟨x, hx⟩ : ∃ x, p.ins[i]? = some x := ⟨_, List.getElem?_eq_getElem hlt⟩
    have ea : (p.ins.map Ins.enc)[i]? = some x.enc := by simp [hx]
    have hx' := (List.getElem?_eq_some_iff.1 hx).2
    rw [List.drop_eq_getElem_cons hlt, hx'] at ha ⊢
    simp -implicitDefEqProofs only [okAll, Bool.and_eq_true] at ha
    rw [f19_l3_eq _ (PP_ok _ _ _)]
    simp -implicitDefEqProofs only [↓z_ret, ↓z_val, ↓z_pick, ↓z_cond, ↓z_boxRo_agg, ↓z_boxRo_int, ↓z_boxRo_bool, ↓z_boxRo_str, ↓z_boxRo_sl, ↓z_boxRo_fn, ↓z_boxRo_vptr, ↓z_boxRo_ref, ↓z_len_sl, ↓z_len_msl, ↓z_len_str, ↓z_load1, ↓z_fa, ↓z_fa_ref, ↓z_callF, ↓z_andK, ↓z_orK, ↓z_and1, ↓z_and2, ↓z_and3, ↓z_and4, ↓z_and5, ↓z_and6, ↓z_and7, ↓z_and8, ↓z_and9, ↓z_and10, ↓z_and11, ↓z_and12, ↓z_or1, ↓z_or2, ↓z_or3, ↓z_or4, ↓z_or5, ↓z_or6, ↓z_or7, ↓z_or8, ↓z_or9, ↓z_or10, ↓z_or11, ↓z_or12, ↓z_add, ↓z_sub, ↓z_mul, ↓z_eql, ↓z_neq, ↓z_lss, ↓z_leq, ↓z_gtr, ↓z_geq, ↓z_not, ↓z_neg, ↓z_fin_int, ↓z_fin_bool, ↓z_fin_str, ↓z_ent_int, ↓z_ent_bool, ↓z_ent_str, ↓z_stn, ↓z_ldnn, ↓z_ldn0, ↓z_ldn1, ↓z_ldn2, ↓z_ldn3, ↓z_ldn4, ↓z_ldn5, ↓z_ldn6, ↓z_ldn7, ↓z_ldn8, List.drop_zero, List.drop_succ_cons, List.cons_append, List.nil_append, decide_eq_true_eq, decide_eq_false_iff_not, ite_not, ↓reduceIte, pub_agg, pub_int, pub_bool, pub_str, pub_fn, pub_vptr, pub_nilp, Nat.zero_add, List.length_cons, List.length_nil, Nat.reduceAdd, List.all_cons, List.all_nil, isCell_int, isCell_bool, isCell_str, isCell_sl, Bool.and_self, ↓z_loadn, Nat.reduceLeDiff, Nat.le_refl, List.take_succ_cons, List.take_zero, eq_true h, decide_true, if_true]
    subst ho
    refine f19_j4_ok G X hR inp vi hI _ _ _ _ x out nr j p.ins.length l (by omega) S hS hg _ (by omega) rfl ea (by rw [hin]; exact ha.1) fun S' hS' hown => ?_
    have hw : IntKind.wrap .i64 ((out.length : Int) + 1) = ((out.length + 1 : Nat) : Int) := wrap_succ out.length (by omega)
    have hg2 : S'.own[j]? = some (.cells (full out p.ins.length)) := by rw [hown]; exact own_new hg _
    rw [f19_j5_eq _ (PP_ok _ _ _)]
    simp -implicitDefEqProofs only [↓z_ret, ↓z_val, ↓z_pick, ↓z_cond, ↓z_boxRo_agg, ↓z_boxRo_int, ↓z_boxRo_bool, ↓z_boxRo_str, ↓z_boxRo_sl, ↓z_boxRo_fn, ↓z_boxRo_vptr, ↓z_boxRo_ref, ↓z_len_sl, ↓z_len_msl, ↓z_len_str, ↓z_load1, ↓z_fa, ↓z_fa_ref, ↓z_callF, ↓z_andK, ↓z_orK, ↓z_and1, ↓z_and2, ↓z_and3, ↓z_and4, ↓z_and5, ↓z_and6, ↓z_and7, ↓z_and8, ↓z_and9, ↓z_and10, ↓z_and11, ↓z_and12, ↓z_or1, ↓z_or2, ↓z_or3, ↓z_or4, ↓z_or5, ↓z_or6, ↓z_or7, ↓z_or8, ↓z_or9, ↓z_or10, ↓z_or11, ↓z_or12, ↓z_add, ↓z_sub, ↓z_mul, ↓z_eql, ↓z_neq, ↓z_lss, ↓z_leq, ↓z_gtr, ↓z_geq, ↓z_not, ↓z_neg, ↓z_fin_int, ↓z_fin_bool, ↓z_fin_str, ↓z_ent_int, ↓z_ent_bool, ↓z_ent_str, ↓z_stn, ↓z_ldnn, ↓z_ldn0, ↓z_ldn1, ↓z_ldn2, ↓z_ldn3, ↓z_ldn4, ↓z_ldn5, ↓z_ldn6, ↓z_ldn7, ↓z_ldn8, List.drop_zero, List.drop_succ_cons, List.cons_append, List.nil_append, decide_eq_true_eq, decide_eq_false_iff_not, ite_not, ↓reduceIte, pub_agg, pub_int, pub_bool, pub_str, pub_fn, pub_vptr, pub_nilp, Nat.zero_add, List.length_cons, List.length_nil, Nat.reduceAdd, List.all_cons, List.all_nil, isCell_int, isCell_bool, isCell_str, isCell_sl, Bool.and_self, ↓z_loadn, Nat.reduceLeDiff, Nat.le_refl, List.take_succ_cons, List.take_zero, z_bs_int]
    rw [z_append_msl hg2 hlt (full_len _ _ (by omega)) rfl rfl, f19_j6_eq _ (PP_ok _ _ _)]
    simp -implicitDefEqProofs only [↓z_ret, ↓z_val, ↓z_pick, ↓z_cond, ↓z_boxRo_agg, ↓z_boxRo_int, ↓z_boxRo_bool, ↓z_boxRo_str, ↓z_boxRo_sl, ↓z_boxRo_fn, ↓z_boxRo_vptr, ↓z_boxRo_ref, ↓z_len_sl, ↓z_len_msl, ↓z_len_str, ↓z_load1, ↓z_fa, ↓z_fa_ref, ↓z_callF, ↓z_andK, ↓z_orK, ↓z_and1, ↓z_and2, ↓z_and3, ↓z_and4, ↓z_and5, ↓z_and6, ↓z_and7, ↓z_and8, ↓z_and9, ↓z_and10, ↓z_and11, ↓z_and12, ↓z_or1, ↓z_or2, ↓z_or3, ↓z_or4, ↓z_or5, ↓z_or6, ↓z_or7, ↓z_or8, ↓z_or9, ↓z_or10, ↓z_or11, ↓z_or12, ↓z_add, ↓z_sub, ↓z_mul, ↓z_eql, ↓z_neq, ↓z_lss, ↓z_leq, ↓z_gtr, ↓z_geq, ↓z_not, ↓z_neg, ↓z_fin_int, ↓z_fin_bool, ↓z_fin_str, ↓z_ent_int, ↓z_ent_bool, ↓z_ent_str, ↓z_stn, ↓z_ldnn, ↓z_ldn0, ↓z_ldn1, ↓z_ldn2, ↓z_ldn3, ↓z_ldn4, ↓z_ldn5, ↓z_ldn6, ↓z_ldn7, ↓z_ldn8, List.drop_zero, List.drop_succ_cons, List.cons_append, List.nil_append, decide_eq_true_eq, decide_eq_false_iff_not, ite_not, ↓reduceIte, pub_agg, pub_int, pub_bool, pub_str, pub_fn, pub_vptr, pub_nilp, Nat.zero_add, List.length_cons, List.length_nil, Nat.reduceAdd, List.all_cons, List.all_nil, isCell_int, isCell_bool, isCell_str, isCell_sl, Bool.and_self, ↓z_loadn, Nat.reduceLeDiff, Nat.le_refl, List.take_succ_cons, List.take_zero, hw]
    have hj := (List.getElem?_eq_some_iff.1 hg2).1
    rw [full_set _ _ _ hlt]
    have := ih (out.length + 1) (nextR x nr) (out ++ [valR R inp out nr x]) (l ++ log1 x) (by omega) (by simp) (by unfold nextR; split <;> omega) (by unfold log1; split <;> simp <;> omega) ha.2 { own := S'.own.set j (.cells (full (out ++ [valR R inp out nr x]) p.ins.length)), up := S'.up, ro := S'.ro } ⟨hS'.up, hS'.ro⟩ (by simp [hj])
    rw [this]
    simp -implicitDefEqProofs only [runR, logs, List.append_assoc]
theorem f19_ok (p : Prog) (inp : List Int) (vi : AV) (hI : InOK G X σ vi inp) (hv : p.vals.length ≤ 9223372036854775807) (hvv : ∀ v, v ∈ p.vals → v.1.length ≤ 9223372036854775807) (hin : (inp.length : Int) = p.inputs) (hc : p.check = 0) :
    callω T1 G X 19 [p.enc, .agg [fc, fa, fs, fm, fr], vi] (σ []) = .ok (.tup [sl1 (runR R inp p.ins 0 []) .exact, I 0]) (σ (logs p.ins)) := by
  rw [f19_call, f19_eq]
  have h7 := f52_ok G X p (σ []).enter hv hvv
  simp -implicitDefEqProofs only [Prog.enc, Prog.cs] at h7
  have h3 := f19_l3_ok G X hR p inp vi hI (check0 hc).1 hin (σ []).enter.own.length p.ins.length 0 0 [] [] (by omega) rfl (by omega) (by simp) (okAll_scan _ _ _ _ _ _ (check0 hc).2.2.1) ((σ []).enter.new (.cells (List.replicate p.ins.length (I 0)))) ((Child.enter (σ [])).new _) (by simp [St.new, full])
  simp -implicitDefEqProofs only [Int.natCast_zero, List.drop_zero, List.nil_append] at h3
  have hmk := fun (k : K1) => z_make (T := T1) (G := G) (X := X) (s := (σ []).enter) (k := k) (I 0) 8 0 p.ins.length (Nat.zero_le _) (by have := (check0 hc).1; omega)
  simp -implicitDefEqProofs only [Int.natCast_zero] at hmk
  simp -implicitDefEqProofs only [Prog.enc, Prog.cs, ↓z_ret, ↓z_val, ↓z_pick, ↓z_cond, ↓z_boxRo_agg, ↓z_boxRo_int, ↓z_boxRo_bool, ↓z_boxRo_str, ↓z_boxRo_sl, ↓z_boxRo_fn, ↓z_boxRo_vptr, ↓z_boxRo_ref, ↓z_len_sl, ↓z_len_msl, ↓z_len_str, ↓z_load1, ↓z_fa, ↓z_fa_ref, ↓z_callF, ↓z_andK, ↓z_orK, ↓z_and1, ↓z_and2, ↓z_and3, ↓z_and4, ↓z_and5, ↓z_and6, ↓z_and7, ↓z_and8, ↓z_and9, ↓z_and10, ↓z_and11, ↓z_and12, ↓z_or1, ↓z_or2, ↓z_or3, ↓z_or4, ↓z_or5, ↓z_or6, ↓z_or7, ↓z_or8, ↓z_or9, ↓z_or10, ↓z_or11, ↓z_or12, ↓z_add, ↓z_sub, ↓z_mul, ↓z_eql, ↓z_neq, ↓z_lss, ↓z_leq, ↓z_gtr, ↓z_geq, ↓z_not, ↓z_neg, ↓z_fin_int, ↓z_fin_bool, ↓z_fin_str, ↓z_ent_int, ↓z_ent_bool, ↓z_ent_str, ↓z_stn, ↓z_ldnn, ↓z_ldn0, ↓z_ldn1, ↓z_ldn2, ↓z_ldn3, ↓z_ldn4, ↓z_ldn5, ↓z_ldn6, ↓z_ldn7, ↓z_ldn8, List.drop_zero, List.drop_succ_cons, List.cons_append, List.nil_append, decide_eq_true_eq, decide_eq_false_iff_not, ite_not, ↓reduceIte, pub_agg, pub_int, pub_bool, pub_str, pub_fn, pub_vptr, pub_nilp, Nat.zero_add, List.length_cons, List.length_nil, Nat.reduceAdd, List.all_cons, List.all_nil, isCell_int, isCell_bool, isCell_str, isCell_sl, Bool.and_self, ↓z_loadn, Nat.reduceLeDiff, Nat.le_refl, List.take_succ_cons, List.take_zero, z_call0 h7, eq_true hc, hin, f19_j1_eq _ (PP_ok _ _ _), f19_j2_eq _ (PP_ok _ _ _), decide_true, decide_false, Bool.false_eq_true, not_true_eq_false, List.length_map, ↓hmk, hI.len [] _ _ (Child.enter (σ []))]
  exact h3
end
theorem ringOK_pure (m b : Int) (s : St) : RingOK G X (opsM m b) (fun _ => s) (.fn 53 [.vptr (rcs m b)]) (.fn 54 [.vptr (rcs m b)]) (.fn 55 [.vptr (rcs m b)]) (.fn 56 [.vptr (rcs m b)]) (.fn 57 [.vptr (rcs m b)]) where
  c := fun l n S k _ hS => by rw [z_callF, reup_self hS]; exact z_call0 (f53_ok G X m b n S)
  add := fun l x y S k _ hS => by rw [z_callF, reup_self hS]; exact z_call0 (f54_ok G X m b x y S)
  sub := fun l x y S k _ hS => by rw [z_callF, reup_self hS]; exact z_call0 (f55_ok G X m b x y S)
  mul := fun l x y S k _ hS => by rw [z_callF, reup_self hS]; exact z_call0 (f56_ok G X m b x y S)
  root := fun l x y S k _ hS => by rw [z_callF, reup_self hS]; exact z_call0 (f57_ok G X m b x y S)
end Go.AbZ
end
