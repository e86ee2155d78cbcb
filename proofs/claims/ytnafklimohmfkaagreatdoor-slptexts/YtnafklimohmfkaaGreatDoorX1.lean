/- The contracts of some functions of the program, as the abstract evaluator runs them: for every argument that their texts name. -/
import Derived.Test.YtnafklimohmfkaaGreatDoorTabXH
import Derived.Test.YtnafklimohmfkaaGreatDoorH
section
namespace Go.AbX
open Go.Ab
variable (G : Nat → AV) (X : Nat → List AV → St → Res)
set_option linter.unusedSimpArgs false
set_option linter.unusedVariables false
abbrev I (n : Int) : AV := .int .i64 n
/-- An instruction. -/
structure Ins where
  op : Int
  a : Int
  b : Int
def Ins.cs (x : Ins) : List AV := [.int .i64 x.op, .int .i64 x.a, .int .i64 x.b]
def Ins.enc (x : Ins) : AV := .agg x.cs
/-- A program. -/
structure Prog where
  inputs : Int
  ins : List Ins
  gi : Gr
  vals : List (List Int × Gr)
  gv : Gr
  roots : List Int
  gr : Gr
abbrev sl1 (l : List Int) (g : Gr) : AV := .sl 1 (l.map I) g
def Prog.cs (p : Prog) : List AV := [.int .i64 p.inputs, .sl 3 (p.ins.map Ins.enc) p.gi, .sl 1 (p.vals.map fun v => sl1 v.1 v.2) p.gv, sl1 p.roots p.gr]
def Prog.enc (p : Prog) : AV := .agg p.cs

theorem f138_ok (r at' : Int) (s : St) : callω T1 G X 138 [.int .i64 r, .vptr [.int .i64 at']] s = .ok (.bool (decide (0 ≤ r ∧ r < at'))) s := by
  rw [f138_call, f138_eq]
  simp -implicitDefEqProofs only [↓z_ret, ↓z_val, ↓z_pick, ↓z_cond, ↓z_boxRo_agg, ↓z_boxRo_int, ↓z_boxRo_bool, ↓z_boxRo_str, ↓z_boxRo_sl, ↓z_boxRo_fn, ↓z_boxRo_vptr, ↓z_boxRo_ref, ↓z_len_sl, ↓z_len_msl, ↓z_len_str, ↓z_load1, ↓z_fa, ↓z_fa_ref, ↓z_callF, ↓z_andK, ↓z_orK, ↓z_and1, ↓z_and2, ↓z_and3, ↓z_and4, ↓z_and5, ↓z_and6, ↓z_and7, ↓z_and8, ↓z_and9, ↓z_and10, ↓z_and11, ↓z_and12, ↓z_or1, ↓z_or2, ↓z_or3, ↓z_or4, ↓z_or5, ↓z_or6, ↓z_or7, ↓z_or8, ↓z_or9, ↓z_or10, ↓z_or11, ↓z_or12, ↓z_add, ↓z_sub, ↓z_mul, ↓z_eql, ↓z_neq, ↓z_lss, ↓z_leq, ↓z_gtr, ↓z_geq, ↓z_not, ↓z_neg, ↓z_fin_int, ↓z_fin_bool, ↓z_fin_str, ↓z_ent_int, ↓z_ent_bool, ↓z_ent_str, ↓z_stn, ↓z_ldnn, ↓z_ldn0, ↓z_ldn1, ↓z_ldn2, ↓z_ldn3, ↓z_ldn4, ↓z_ldn5, ↓z_ldn6, ↓z_ldn7, ↓z_ldn8, List.drop_zero, List.drop_succ_cons, List.cons_append, List.nil_append, decide_eq_true_eq, decide_eq_false_iff_not, ite_not, ↓reduceIte, pub_agg, pub_int, pub_bool, pub_str, pub_fn, pub_vptr, pub_nilp, Nat.zero_add, List.length_cons, List.length_nil, Nat.reduceAdd, List.all_cons, List.all_nil, isCell_int, isCell_bool, isCell_str, isCell_sl, Bool.and_self, ↓z_loadn, Nat.reduceLeDiff, Nat.le_refl, List.take_succ_cons, List.take_zero, ite_okb, ite_and']

/-- May an instruction stand at a place? -/
def okIns (x : Ins) (at' inputs : Int) : Bool :=
  if x.op = 1 then decide (0 ≤ x.a ∧ x.a < inputs ∧ x.b = 0)
  else if x.op = 2 then decide (-1000 ≤ x.a ∧ x.a ≤ 1000 ∧ x.b = 0)
  else if x.op = 3 ∨ x.op = 4 ∨ x.op = 5 then decide ((0 ≤ x.a ∧ x.a < at') ∧ (0 ≤ x.b ∧ x.b < at'))
  else if x.op = 6 then decide ((0 ≤ x.a ∧ x.a < at') ∧ x.b = 0)
  else false
theorem f88_ok (x : Ins) (at' inputs : Int) (s : St) : callω T1 G X 88 [x.enc, .int .i64 at', .int .i64 inputs] s = .ok (.bool (okIns x at' inputs)) s := by
  rw [f88_call, f88_eq]
  simp -implicitDefEqProofs only [Ins.enc, Ins.cs, ↓z_ret, ↓z_val, ↓z_pick, ↓z_cond, ↓z_boxRo_agg, ↓z_boxRo_int, ↓z_boxRo_bool, ↓z_boxRo_str, ↓z_boxRo_sl, ↓z_boxRo_fn, ↓z_boxRo_vptr, ↓z_boxRo_ref, ↓z_len_sl, ↓z_len_msl, ↓z_len_str, ↓z_load1, ↓z_fa, ↓z_fa_ref, ↓z_callF, ↓z_andK, ↓z_orK, ↓z_and1, ↓z_and2, ↓z_and3, ↓z_and4, ↓z_and5, ↓z_and6, ↓z_and7, ↓z_and8, ↓z_and9, ↓z_and10, ↓z_and11, ↓z_and12, ↓z_or1, ↓z_or2, ↓z_or3, ↓z_or4, ↓z_or5, ↓z_or6, ↓z_or7, ↓z_or8, ↓z_or9, ↓z_or10, ↓z_or11, ↓z_or12, ↓z_add, ↓z_sub, ↓z_mul, ↓z_eql, ↓z_neq, ↓z_lss, ↓z_leq, ↓z_gtr, ↓z_geq, ↓z_not, ↓z_neg, ↓z_fin_int, ↓z_fin_bool, ↓z_fin_str, ↓z_ent_int, ↓z_ent_bool, ↓z_ent_str, ↓z_stn, ↓z_ldnn, ↓z_ldn0, ↓z_ldn1, ↓z_ldn2, ↓z_ldn3, ↓z_ldn4, ↓z_ldn5, ↓z_ldn6, ↓z_ldn7, ↓z_ldn8, List.drop_zero, List.drop_succ_cons, List.cons_append, List.nil_append, decide_eq_true_eq, decide_eq_false_iff_not, ite_not, ↓reduceIte, pub_agg, pub_int, pub_bool, pub_str, pub_fn, pub_vptr, pub_nilp, Nat.zero_add, List.length_cons, List.length_nil, Nat.reduceAdd, List.all_cons, List.all_nil, isCell_int, isCell_bool, isCell_str, isCell_sl, Bool.and_self, ↓z_loadn, Nat.reduceLeDiff, Nat.le_refl, List.take_succ_cons, List.take_zero, f88_j1_eq _ (PP_ok _ _ _), f88_j2_eq _ (PP_ok _ _ _), z_call0 (f138_ok G X _ _ _), ite_okb, ite_and']
  congr 2
  unfold okIns
  grind
theorem f51_ok (x : Ins) (at' inputs : Int) (s : St) : callω T1 G X 51 [x.enc, .int .i64 at', .int .i64 inputs] s = .ok (.bool (okIns x at' inputs)) s := by
  rw [f51_call, f51_eq]
  simp -implicitDefEqProofs only [Ins.enc, Ins.cs, ↓z_ret, ↓z_val, ↓z_pick, ↓z_cond, ↓z_boxRo_agg, ↓z_boxRo_int, ↓z_boxRo_bool, ↓z_boxRo_str, ↓z_boxRo_sl, ↓z_boxRo_fn, ↓z_boxRo_vptr, ↓z_boxRo_ref, ↓z_len_sl, ↓z_len_msl, ↓z_len_str, ↓z_load1, ↓z_fa, ↓z_fa_ref, ↓z_callF, ↓z_andK, ↓z_orK, ↓z_and1, ↓z_and2, ↓z_and3, ↓z_and4, ↓z_and5, ↓z_and6, ↓z_and7, ↓z_and8, ↓z_and9, ↓z_and10, ↓z_and11, ↓z_and12, ↓z_or1, ↓z_or2, ↓z_or3, ↓z_or4, ↓z_or5, ↓z_or6, ↓z_or7, ↓z_or8, ↓z_or9, ↓z_or10, ↓z_or11, ↓z_or12, ↓z_add, ↓z_sub, ↓z_mul, ↓z_eql, ↓z_neq, ↓z_lss, ↓z_leq, ↓z_gtr, ↓z_geq, ↓z_not, ↓z_neg, ↓z_fin_int, ↓z_fin_bool, ↓z_fin_str, ↓z_ent_int, ↓z_ent_bool, ↓z_ent_str, ↓z_stn, ↓z_ldnn, ↓z_ldn0, ↓z_ldn1, ↓z_ldn2, ↓z_ldn3, ↓z_ldn4, ↓z_ldn5, ↓z_ldn6, ↓z_ldn7, ↓z_ldn8, List.drop_zero, List.drop_succ_cons, List.cons_append, List.nil_append, decide_eq_true_eq, decide_eq_false_iff_not, ite_not, ↓reduceIte, pub_agg, pub_int, pub_bool, pub_str, pub_fn, pub_vptr, pub_nilp, Nat.zero_add, List.length_cons, List.length_nil, Nat.reduceAdd, List.all_cons, List.all_nil, isCell_int, isCell_bool, isCell_str, isCell_sl, Bool.and_self, ↓z_loadn, Nat.reduceLeDiff, Nat.le_refl, List.take_succ_cons, List.take_zero, f51_j1_eq _ (PP_ok _ _ _), f51_j2_eq _ (PP_ok _ _ _), ite_okb, ite_and']
  congr 2
  unfold okIns
  grind

theorem f32_loop (a b : List Int) (ga gb : Gr) (s : St) (hl : a.length = b.length) (hb : a.length ≤ 9223372036854775807) : ∀ (n i : Nat), i + n = a.length → ∀ S, Child s S →
    f32_l2 (PP T1 G X) (.sl 1 (a.map I) ga) (.sl 1 (b.map I) gb) (.int .i64 (i : Int)) S = .ok (.bool (decide (a.drop i = b.drop i))) s := by
  intro n
  induction n with
  | zero =>
    intro i hi S hS
    rw [f32_l2_eq _ (PP_ok _ _ _)]
    have h : ¬ ((i : Int) < (a.length : Int)) := by omega
    simp -implicitDefEqProofs only [↓z_ret, ↓z_val, ↓z_pick, ↓z_cond, ↓z_boxRo_agg, ↓z_boxRo_int, ↓z_boxRo_bool, ↓z_boxRo_str, ↓z_boxRo_sl, ↓z_boxRo_fn, ↓z_boxRo_vptr, ↓z_boxRo_ref, ↓z_len_sl, ↓z_len_msl, ↓z_len_str, ↓z_load1, ↓z_fa, ↓z_fa_ref, ↓z_callF, ↓z_andK, ↓z_orK, ↓z_and1, ↓z_and2, ↓z_and3, ↓z_and4, ↓z_and5, ↓z_and6, ↓z_and7, ↓z_and8, ↓z_and9, ↓z_and10, ↓z_and11, ↓z_and12, ↓z_or1, ↓z_or2, ↓z_or3, ↓z_or4, ↓z_or5, ↓z_or6, ↓z_or7, ↓z_or8, ↓z_or9, ↓z_or10, ↓z_or11, ↓z_or12, ↓z_add, ↓z_sub, ↓z_mul, ↓z_eql, ↓z_neq, ↓z_lss, ↓z_leq, ↓z_gtr, ↓z_geq, ↓z_not, ↓z_neg, ↓z_fin_int, ↓z_fin_bool, ↓z_fin_str, ↓z_ent_int, ↓z_ent_bool, ↓z_ent_str, ↓z_stn, ↓z_ldnn, ↓z_ldn0, ↓z_ldn1, ↓z_ldn2, ↓z_ldn3, ↓z_ldn4, ↓z_ldn5, ↓z_ldn6, ↓z_ldn7, ↓z_ldn8, List.drop_zero, List.drop_succ_cons, List.cons_append, List.nil_append, decide_eq_true_eq, decide_eq_false_iff_not, ite_not, ↓reduceIte, pub_agg, pub_int, pub_bool, pub_str, pub_fn, pub_vptr, pub_nilp, Nat.zero_add, List.length_cons, List.length_nil, Nat.reduceAdd, List.all_cons, List.all_nil, isCell_int, isCell_bool, isCell_str, isCell_sl, Bool.and_self, ↓z_loadn, Nat.reduceLeDiff, Nat.le_refl, List.take_succ_cons, List.take_zero, List.length_map, h, decide_false, Bool.false_eq_true, f32_j5_eq _ (PP_ok _ _ _), z_finC_bool hS]
    rw [List.drop_of_length_le (by omega), List.drop_of_length_le (by omega)]
    simp
  | succ n ih =>
    intro i hi S hS
    rw [f32_l2_eq _ (PP_ok _ _ _)]
    have h : (i : Int) < (a.length : Int) := by omega
    have ha : i < a.length := by omega
    have hb' : i < b.length := by omega
    have ea : (a.map I)[i]? = some (I a[i]) := by simp [ha]
    have eb : (b.map I)[i]? = some (I b[i]) := by simp [hb']
    have hw : IntKind.wrap .i64 ((i : Int) + 1) = ((i + 1 : Nat) : Int) := wrap_succ i (by omega)
    simp -implicitDefEqProofs only [↓z_ret, ↓z_val, ↓z_pick, ↓z_cond, ↓z_boxRo_agg, ↓z_boxRo_int, ↓z_boxRo_bool, ↓z_boxRo_str, ↓z_boxRo_sl, ↓z_boxRo_fn, ↓z_boxRo_vptr, ↓z_boxRo_ref, ↓z_len_sl, ↓z_len_msl, ↓z_len_str, ↓z_load1, ↓z_fa, ↓z_fa_ref, ↓z_callF, ↓z_andK, ↓z_orK, ↓z_and1, ↓z_and2, ↓z_and3, ↓z_and4, ↓z_and5, ↓z_and6, ↓z_and7, ↓z_and8, ↓z_and9, ↓z_and10, ↓z_and11, ↓z_and12, ↓z_or1, ↓z_or2, ↓z_or3, ↓z_or4, ↓z_or5, ↓z_or6, ↓z_or7, ↓z_or8, ↓z_or9, ↓z_or10, ↓z_or11, ↓z_or12, ↓z_add, ↓z_sub, ↓z_mul, ↓z_eql, ↓z_neq, ↓z_lss, ↓z_leq, ↓z_gtr, ↓z_geq, ↓z_not, ↓z_neg, ↓z_fin_int, ↓z_fin_bool, ↓z_fin_str, ↓z_ent_int, ↓z_ent_bool, ↓z_ent_str, ↓z_stn, ↓z_ldnn, ↓z_ldn0, ↓z_ldn1, ↓z_ldn2, ↓z_ldn3, ↓z_ldn4, ↓z_ldn5, ↓z_ldn6, ↓z_ldn7, ↓z_ldn8, List.drop_zero, List.drop_succ_cons, List.cons_append, List.nil_append, decide_eq_true_eq, decide_eq_false_iff_not, ite_not, ↓reduceIte, pub_agg, pub_int, pub_bool, pub_str, pub_fn, pub_vptr, pub_nilp, Nat.zero_add, List.length_cons, List.length_nil, Nat.reduceAdd, List.all_cons, List.all_nil, isCell_int, isCell_bool, isCell_str, isCell_sl, Bool.and_self, ↓z_loadn, Nat.reduceLeDiff, Nat.le_refl, List.take_succ_cons, List.take_zero, List.length_map, h, decide_true, if_true, f32_j3_eq _ (PP_ok _ _ _), f32_j4_eq _ (PP_ok _ _ _), z_idx _ _ _ _ _ _ ea, z_idx _ _ _ _ _ _ eb, AV.cells, z_finC_bool hS, hw, ih (i + 1) (by omega) S hS]
    rw [List.drop_eq_getElem_cons ha, List.drop_eq_getElem_cons hb']
    simp -implicitDefEqProofs only [List.cons.injEq]
    by_cases hab : a[i] = b[i]
    · simp -implicitDefEqProofs only [hab, true_and, not_true_eq_false, decide_false, ↓reduceIte]
    · simp -implicitDefEqProofs only [hab, false_and, not_false_eq_true, decide_false, ↓reduceIte]
theorem f32_ok (a b : List Int) (ga gb : Gr) (s : St) (hb : a.length ≤ 9223372036854775807) : callω T1 G X 32 [sl1 a ga, sl1 b gb] s = .ok (.bool (decide (a = b))) s := by
  rw [f32_call, f32_eq]
  simp -implicitDefEqProofs only [sl1, ↓z_ret, ↓z_val, ↓z_pick, ↓z_cond, ↓z_boxRo_agg, ↓z_boxRo_int, ↓z_boxRo_bool, ↓z_boxRo_str, ↓z_boxRo_sl, ↓z_boxRo_fn, ↓z_boxRo_vptr, ↓z_boxRo_ref, ↓z_len_sl, ↓z_len_msl, ↓z_len_str, ↓z_load1, ↓z_fa, ↓z_fa_ref, ↓z_callF, ↓z_andK, ↓z_orK, ↓z_and1, ↓z_and2, ↓z_and3, ↓z_and4, ↓z_and5, ↓z_and6, ↓z_and7, ↓z_and8, ↓z_and9, ↓z_and10, ↓z_and11, ↓z_and12, ↓z_or1, ↓z_or2, ↓z_or3, ↓z_or4, ↓z_or5, ↓z_or6, ↓z_or7, ↓z_or8, ↓z_or9, ↓z_or10, ↓z_or11, ↓z_or12, ↓z_add, ↓z_sub, ↓z_mul, ↓z_eql, ↓z_neq, ↓z_lss, ↓z_leq, ↓z_gtr, ↓z_geq, ↓z_not, ↓z_neg, ↓z_fin_int, ↓z_fin_bool, ↓z_fin_str, ↓z_ent_int, ↓z_ent_bool, ↓z_ent_str, ↓z_stn, ↓z_ldnn, ↓z_ldn0, ↓z_ldn1, ↓z_ldn2, ↓z_ldn3, ↓z_ldn4, ↓z_ldn5, ↓z_ldn6, ↓z_ldn7, ↓z_ldn8, List.drop_zero, List.drop_succ_cons, List.cons_append, List.nil_append, decide_eq_true_eq, decide_eq_false_iff_not, ite_not, ↓reduceIte, pub_agg, pub_int, pub_bool, pub_str, pub_fn, pub_vptr, pub_nilp, Nat.zero_add, List.length_cons, List.length_nil, Nat.reduceAdd, List.all_cons, List.all_nil, isCell_int, isCell_bool, isCell_str, isCell_sl, Bool.and_self, ↓z_loadn, Nat.reduceLeDiff, Nat.le_refl, List.take_succ_cons, List.take_zero, List.length_map, f32_j1_eq _ (PP_ok _ _ _)]
  by_cases h : a.length = b.length
  · have := f32_loop G X a b ga gb s h hb a.length 0 (by omega) s.enter (.enter s)
    simp -implicitDefEqProofs only [Int.natCast_zero, List.drop_zero] at this
    simp [h, this]
  · have h1 : ¬ (a.length : Int) = (b.length : Int) := by omega
    have h2 : ¬ a = b := fun e => h (by rw [e])
    simp [h1, h2]

/-- The instructions from one on, with the next root: the number of roots behind them. -/
def scan (roots : List Int) (inputs : Int) : List Ins → Nat → Nat → Option Nat
  | [], _, nx => some nx
  | x :: xs, i, nx =>
    if okIns x i inputs = true then
      if x.op = 6 then
        if roots[nx]? = some (i : Int) then scan roots inputs xs (i + 1) (nx + 1) else none
      else scan roots inputs xs (i + 1) nx
    else none
def inReg (n : Nat) (r : Int) : Bool := decide (0 ≤ r ∧ r < (n : Int))
def okVal (n : Nat) (v : List Int) : Bool := decide (v.length = 3 ∨ v.length = 7) && v.all (inReg n)
def Prog.check (p : Prog) : Int :=
  if p.inputs < 0 ∨ 20 < p.inputs ∨ 8192 < p.ins.length ∨ 5 < p.roots.length then 3
  else if scan p.roots p.inputs p.ins 0 0 = some p.roots.length ∧ (p.vals.all fun v => okVal p.ins.length v.1) = true then 0 else 3

/-- The registers of a value. -/
theorem f52_l13_ok (p : Prog) (v : List Int) (s : St) (g : Gr) (R : Res) (c70 : AV) (c71 c72 : Int) (hv : v.length ≤ 9223372036854775807) (hR : ∀ (S : St), Child s S → f52_j16 (PP T1 G X) (.vptr p.cs) c70 (I c71) (I c72) S = R) : ∀ (n i : Nat), i + n = v.length → ∀ (S : St), Child s S →
    f52_l13 (PP T1 G X) (.vptr p.cs) c70 (I c71) (I c72) (.sl 1 (v.map I) g) (I v.length) (.int .i64 (i : Int)) S = (if (v.drop i).all (inReg p.ins.length) = true then R else .ok (I 3) s) := by
  intro n
  induction n with
  | zero =>
    intro i hi S hS
    rw [f52_l13_eq _ (PP_ok _ _ _)]
    have h : ¬ ((i : Int) < (v.length : Int)) := by omega
    simp -implicitDefEqProofs only [↓z_ret, ↓z_val, ↓z_pick, ↓z_cond, ↓z_boxRo_agg, ↓z_boxRo_int, ↓z_boxRo_bool, ↓z_boxRo_str, ↓z_boxRo_sl, ↓z_boxRo_fn, ↓z_boxRo_vptr, ↓z_boxRo_ref, ↓z_len_sl, ↓z_len_msl, ↓z_len_str, ↓z_load1, ↓z_fa, ↓z_fa_ref, ↓z_callF, ↓z_andK, ↓z_orK, ↓z_and1, ↓z_and2, ↓z_and3, ↓z_and4, ↓z_and5, ↓z_and6, ↓z_and7, ↓z_and8, ↓z_and9, ↓z_and10, ↓z_and11, ↓z_and12, ↓z_or1, ↓z_or2, ↓z_or3, ↓z_or4, ↓z_or5, ↓z_or6, ↓z_or7, ↓z_or8, ↓z_or9, ↓z_or10, ↓z_or11, ↓z_or12, ↓z_add, ↓z_sub, ↓z_mul, ↓z_eql, ↓z_neq, ↓z_lss, ↓z_leq, ↓z_gtr, ↓z_geq, ↓z_not, ↓z_neg, ↓z_fin_int, ↓z_fin_bool, ↓z_fin_str, ↓z_ent_int, ↓z_ent_bool, ↓z_ent_str, ↓z_stn, ↓z_ldnn, ↓z_ldn0, ↓z_ldn1, ↓z_ldn2, ↓z_ldn3, ↓z_ldn4, ↓z_ldn5, ↓z_ldn6, ↓z_ldn7, ↓z_ldn8, List.drop_zero, List.drop_succ_cons, List.cons_append, List.nil_append, decide_eq_true_eq, decide_eq_false_iff_not, ite_not, ↓reduceIte, pub_agg, pub_int, pub_bool, pub_str, pub_fn, pub_vptr, pub_nilp, Nat.zero_add, List.length_cons, List.length_nil, Nat.reduceAdd, List.all_cons, List.all_nil, isCell_int, isCell_bool, isCell_str, isCell_sl, Bool.and_self, ↓z_loadn, Nat.reduceLeDiff, Nat.le_refl, List.take_succ_cons, List.take_zero, h, decide_false, Bool.false_eq_true]
    rw [List.drop_of_length_le (by omega)]
    simp
    exact hR S hS
  | succ n ih =>
    intro i hi S hS
    rw [f52_l13_eq _ (PP_ok _ _ _)]
    have h : (i : Int) < (v.length : Int) := by omega
    have ha : i < v.length := by omega
    have ea : (v.map I)[i]? = some (I v[i]) := by simp [ha]
    have hw : IntKind.wrap .i64 ((i : Int) + 1) = ((i + 1 : Nat) : Int) := wrap_succ i (by omega)
    simp -implicitDefEqProofs only [↓z_ret, ↓z_val, ↓z_pick, ↓z_cond, ↓z_boxRo_agg, ↓z_boxRo_int, ↓z_boxRo_bool, ↓z_boxRo_str, ↓z_boxRo_sl, ↓z_boxRo_fn, ↓z_boxRo_vptr, ↓z_boxRo_ref, ↓z_len_sl, ↓z_len_msl, ↓z_len_str, ↓z_load1, ↓z_fa, ↓z_fa_ref, ↓z_callF, ↓z_andK, ↓z_orK, ↓z_and1, ↓z_and2, ↓z_and3, ↓z_and4, ↓z_and5, ↓z_and6, ↓z_and7, ↓z_and8, ↓z_and9, ↓z_and10, ↓z_and11, ↓z_and12, ↓z_or1, ↓z_or2, ↓z_or3, ↓z_or4, ↓z_or5, ↓z_or6, ↓z_or7, ↓z_or8, ↓z_or9, ↓z_or10, ↓z_or11, ↓z_or12, ↓z_add, ↓z_sub, ↓z_mul, ↓z_eql, ↓z_neq, ↓z_lss, ↓z_leq, ↓z_gtr, ↓z_geq, ↓z_not, ↓z_neg, ↓z_fin_int, ↓z_fin_bool, ↓z_fin_str, ↓z_ent_int, ↓z_ent_bool, ↓z_ent_str, ↓z_stn, ↓z_ldnn, ↓z_ldn0, ↓z_ldn1, ↓z_ldn2, ↓z_ldn3, ↓z_ldn4, ↓z_ldn5, ↓z_ldn6, ↓z_ldn7, ↓z_ldn8, List.drop_zero, List.drop_succ_cons, List.cons_append, List.nil_append, decide_eq_true_eq, decide_eq_false_iff_not, ite_not, ↓reduceIte, pub_agg, pub_int, pub_bool, pub_str, pub_fn, pub_vptr, pub_nilp, Nat.zero_add, List.length_cons, List.length_nil, Nat.reduceAdd, List.all_cons, List.all_nil, isCell_int, isCell_bool, isCell_str, isCell_sl, Bool.and_self, ↓z_loadn, Nat.reduceLeDiff, Nat.le_refl, List.take_succ_cons, List.take_zero, h, decide_true, if_true, f52_j14_eq _ (PP_ok _ _ _), f52_j15_eq _ (PP_ok _ _ _), z_idx _ _ _ _ _ _ ea, AV.cells, Prog.cs, List.length_map, hw, z_finC_int hS]
    have := ih (i + 1) (by omega) S hS
    simp -implicitDefEqProofs only [Prog.cs] at this
    rw [this, List.drop_eq_getElem_cons ha]
    simp -implicitDefEqProofs only [List.all_cons, inReg]
    by_cases h1 : v[i] < 0
    · have : ¬ (0 ≤ v[i]) := by omega
      simp [h1, this]
    · by_cases h2 : (p.ins.length : Int) ≤ v[i]
      · have : ¬ (v[i] < (p.ins.length : Int)) := by omega
        simp [h1, h2, this]
      · have h1' : 0 ≤ v[i] := by omega
        have h2' : v[i] < (p.ins.length : Int) := by omega
        simp [h1, h2, h1', h2', inReg]

theorem f52_l10_ok (p : Prog) (s : St) (hv : p.vals.length ≤ 9223372036854775807) (hvv : ∀ v, v ∈ p.vals → v.1.length ≤ 9223372036854775807) : ∀ (n i : Nat), i + n = p.vals.length → ∀ (S : St), Child s S →
    f52_l10 (PP T1 G X) (.vptr p.cs) (.sl 1 (p.vals.map fun v => sl1 v.1 v.2) p.gv) (I p.vals.length) (.int .i64 (i : Int)) S = .ok (I (if ((p.vals.drop i).all fun v => okVal p.ins.length v.1) = true then 0 else 3)) s := by
  intro n
  induction n with
  | zero =>
    intro i hi S hS
    rw [f52_l10_eq _ (PP_ok _ _ _)]
    have h : ¬ ((i : Int) < (p.vals.length : Int)) := by omega
    simp -implicitDefEqProofs only [↓z_ret, ↓z_val, ↓z_pick, ↓z_cond, ↓z_boxRo_agg, ↓z_boxRo_int, ↓z_boxRo_bool, ↓z_boxRo_str, ↓z_boxRo_sl, ↓z_boxRo_fn, ↓z_boxRo_vptr, ↓z_boxRo_ref, ↓z_len_sl, ↓z_len_msl, ↓z_len_str, ↓z_load1, ↓z_fa, ↓z_fa_ref, ↓z_callF, ↓z_andK, ↓z_orK, ↓z_and1, ↓z_and2, ↓z_and3, ↓z_and4, ↓z_and5, ↓z_and6, ↓z_and7, ↓z_and8, ↓z_and9, ↓z_and10, ↓z_and11, ↓z_and12, ↓z_or1, ↓z_or2, ↓z_or3, ↓z_or4, ↓z_or5, ↓z_or6, ↓z_or7, ↓z_or8, ↓z_or9, ↓z_or10, ↓z_or11, ↓z_or12, ↓z_add, ↓z_sub, ↓z_mul, ↓z_eql, ↓z_neq, ↓z_lss, ↓z_leq, ↓z_gtr, ↓z_geq, ↓z_not, ↓z_neg, ↓z_fin_int, ↓z_fin_bool, ↓z_fin_str, ↓z_ent_int, ↓z_ent_bool, ↓z_ent_str, ↓z_stn, ↓z_ldnn, ↓z_ldn0, ↓z_ldn1, ↓z_ldn2, ↓z_ldn3, ↓z_ldn4, ↓z_ldn5, ↓z_ldn6, ↓z_ldn7, ↓z_ldn8, List.drop_zero, List.drop_succ_cons, List.cons_append, List.nil_append, decide_eq_true_eq, decide_eq_false_iff_not, ite_not, ↓reduceIte, pub_agg, pub_int, pub_bool, pub_str, pub_fn, pub_vptr, pub_nilp, Nat.zero_add, List.length_cons, List.length_nil, Nat.reduceAdd, List.all_cons, List.all_nil, isCell_int, isCell_bool, isCell_str, isCell_sl, Bool.and_self, ↓z_loadn, Nat.reduceLeDiff, Nat.le_refl, List.take_succ_cons, List.take_zero, h, decide_false, Bool.false_eq_true, f52_j17_eq _ (PP_ok _ _ _), z_finC_int hS]
    rw [List.drop_of_length_le (by omega)]
    simp
  | succ n ih =>
    intro i hi S hS
    rw [f52_l10_eq _ (PP_ok _ _ _)]
    have h : (i : Int) < (p.vals.length : Int) := by omega
    have ha : i < p.vals.length := by omega
    have ea : (p.vals.map fun v => sl1 v.1 v.2)[i]? = some (sl1 p.vals[i].1 p.vals[i].2) := by simp [ha]
    have hw : IntKind.wrap .i64 ((i : Int) + 1) = ((i + 1 : Nat) : Int) := wrap_succ i (by omega)
    have hl := hvv p.vals[i] (List.getElem_mem ha)
    have key := fun S hS => f52_l13_ok G X p p.vals[i].1 s p.vals[i].2 (.ok (I (if ((p.vals.drop (i + 1)).all fun v => okVal p.ins.length v.1) = true then 0 else 3)) s) (.sl 1 (p.vals.map fun v => sl1 v.1 v.2) p.gv) p.vals.length i hl (fun S hS => by
      rw [f52_j16_eq _ (PP_ok _ _ _)]
      simp -implicitDefEqProofs only [↓z_ret, ↓z_val, ↓z_pick, ↓z_cond, ↓z_boxRo_agg, ↓z_boxRo_int, ↓z_boxRo_bool, ↓z_boxRo_str, ↓z_boxRo_sl, ↓z_boxRo_fn, ↓z_boxRo_vptr, ↓z_boxRo_ref, ↓z_len_sl, ↓z_len_msl, ↓z_len_str, ↓z_load1, ↓z_fa, ↓z_fa_ref, ↓z_callF, ↓z_andK, ↓z_orK, ↓z_and1, ↓z_and2, ↓z_and3, ↓z_and4, ↓z_and5, ↓z_and6, ↓z_and7, ↓z_and8, ↓z_and9, ↓z_and10, ↓z_and11, ↓z_and12, ↓z_or1, ↓z_or2, ↓z_or3, ↓z_or4, ↓z_or5, ↓z_or6, ↓z_or7, ↓z_or8, ↓z_or9, ↓z_or10, ↓z_or11, ↓z_or12, ↓z_add, ↓z_sub, ↓z_mul, ↓z_eql, ↓z_neq, ↓z_lss, ↓z_leq, ↓z_gtr, ↓z_geq, ↓z_not, ↓z_neg, ↓z_fin_int, ↓z_fin_bool, ↓z_fin_str, ↓z_ent_int, ↓z_ent_bool, ↓z_ent_str, ↓z_stn, ↓z_ldnn, ↓z_ldn0, ↓z_ldn1, ↓z_ldn2, ↓z_ldn3, ↓z_ldn4, ↓z_ldn5, ↓z_ldn6, ↓z_ldn7, ↓z_ldn8, List.drop_zero, List.drop_succ_cons, List.cons_append, List.nil_append, decide_eq_true_eq, decide_eq_false_iff_not, ite_not, ↓reduceIte, pub_agg, pub_int, pub_bool, pub_str, pub_fn, pub_vptr, pub_nilp, Nat.zero_add, List.length_cons, List.length_nil, Nat.reduceAdd, List.all_cons, List.all_nil, isCell_int, isCell_bool, isCell_str, isCell_sl, Bool.and_self, ↓z_loadn, Nat.reduceLeDiff, Nat.le_refl, List.take_succ_cons, List.take_zero, hw]
      exact ih (i + 1) (by omega) S hS) p.vals[i].1.length 0 (by omega) S hS
    simp -implicitDefEqProofs only [Int.natCast_zero, List.drop_zero] at key
    simp -implicitDefEqProofs only [↓z_ret, ↓z_val, ↓z_pick, ↓z_cond, ↓z_boxRo_agg, ↓z_boxRo_int, ↓z_boxRo_bool, ↓z_boxRo_str, ↓z_boxRo_sl, ↓z_boxRo_fn, ↓z_boxRo_vptr, ↓z_boxRo_ref, ↓z_len_sl, ↓z_len_msl, ↓z_len_str, ↓z_load1, ↓z_fa, ↓z_fa_ref, ↓z_callF, ↓z_andK, ↓z_orK, ↓z_and1, ↓z_and2, ↓z_and3, ↓z_and4, ↓z_and5, ↓z_and6, ↓z_and7, ↓z_and8, ↓z_and9, ↓z_and10, ↓z_and11, ↓z_and12, ↓z_or1, ↓z_or2, ↓z_or3, ↓z_or4, ↓z_or5, ↓z_or6, ↓z_or7, ↓z_or8, ↓z_or9, ↓z_or10, ↓z_or11, ↓z_or12, ↓z_add, ↓z_sub, ↓z_mul, ↓z_eql, ↓z_neq, ↓z_lss, ↓z_leq, ↓z_gtr, ↓z_geq, ↓z_not, ↓z_neg, ↓z_fin_int, ↓z_fin_bool, ↓z_fin_str, ↓z_ent_int, ↓z_ent_bool, ↓z_ent_str, ↓z_stn, ↓z_ldnn, ↓z_ldn0, ↓z_ldn1, ↓z_ldn2, ↓z_ldn3, ↓z_ldn4, ↓z_ldn5, ↓z_ldn6, ↓z_ldn7, ↓z_ldn8, List.drop_zero, List.drop_succ_cons, List.cons_append, List.nil_append, decide_eq_true_eq, decide_eq_false_iff_not, ite_not, ↓reduceIte, pub_agg, pub_int, pub_bool, pub_str, pub_fn, pub_vptr, pub_nilp, Nat.zero_add, List.length_cons, List.length_nil, Nat.reduceAdd, List.all_cons, List.all_nil, isCell_int, isCell_bool, isCell_str, isCell_sl, Bool.and_self, ↓z_loadn, Nat.reduceLeDiff, Nat.le_refl, List.take_succ_cons, List.take_zero, h, decide_true, if_true, f52_j11_eq _ (PP_ok _ _ _), f52_j12_eq _ (PP_ok _ _ _), z_idx _ _ _ _ _ _ ea, AV.cells, List.length_map, z_finC_int hS]
    simp -implicitDefEqProofs only [key S hS]
    rw [List.drop_eq_getElem_cons ha]
    rw [List.all_cons, show okVal p.ins.length p.vals[i].1 = (decide (p.vals[i].1.length = 3 ∨ p.vals[i].1.length = 7) && p.vals[i].1.all (inReg p.ins.length)) from rfl]
    generalize ((p.vals.drop (i + 1)).all fun v => okVal p.ins.length v.1) = Q
    by_cases h3 : p.vals[i].1.length = 3
    · by_cases hall : p.vals[i].1.all (inReg p.ins.length) = true <;> simp [h3, hall]
    · by_cases h7 : p.vals[i].1.length = 7
      · by_cases hall : p.vals[i].1.all (inReg p.ins.length) = true <;> simp [h7, hall]
      · have e3 : ¬ (p.vals[i].1.length : Int) = 3 := by omega
        have e7 : ¬ (p.vals[i].1.length : Int) = 7 := by omega
        simp [h3, h7, e3, e7]

/-- The instructions' loop. -/
theorem f52_l2_ok (p : Prog) (s : St) (h8 : p.ins.length ≤ 8192) (h5 : p.roots.length ≤ 5) (R : Res) (hR : ∀ S, Child s S → f52_j9 (PP T1 G X) (.vptr p.cs) S = R) : ∀ (n i nx : Nat), i + n = p.ins.length → nx ≤ p.roots.length → ∀ (S : St), Child s S →
    f52_l2 (PP T1 G X) (.vptr p.cs) (.int .i64 (nx : Int)) (.sl 3 (p.ins.map Ins.enc) p.gi) (I p.ins.length) (.int .i64 (i : Int)) S = if scan p.roots p.inputs (p.ins.drop i) i nx = some p.roots.length then R else .ok (I 3) s := by
  intro n
  induction n with
  | zero =>
    intro i nx hi hnx S hS
    rw [f52_l2_eq _ (PP_ok _ _ _)]
    have h : ¬ ((i : Int) < (p.ins.length : Int)) := by omega
    simp -implicitDefEqProofs only [↓z_ret, ↓z_val, ↓z_pick, ↓z_cond, ↓z_boxRo_agg, ↓z_boxRo_int, ↓z_boxRo_bool, ↓z_boxRo_str, ↓z_boxRo_sl, ↓z_boxRo_fn, ↓z_boxRo_vptr, ↓z_boxRo_ref, ↓z_len_sl, ↓z_len_msl, ↓z_len_str, ↓z_load1, ↓z_fa, ↓z_fa_ref, ↓z_callF, ↓z_andK, ↓z_orK, ↓z_and1, ↓z_and2, ↓z_and3, ↓z_and4, ↓z_and5, ↓z_and6, ↓z_and7, ↓z_and8, ↓z_and9, ↓z_and10, ↓z_and11, ↓z_and12, ↓z_or1, ↓z_or2, ↓z_or3, ↓z_or4, ↓z_or5, ↓z_or6, ↓z_or7, ↓z_or8, ↓z_or9, ↓z_or10, ↓z_or11, ↓z_or12, ↓z_add, ↓z_sub, ↓z_mul, ↓z_eql, ↓z_neq, ↓z_lss, ↓z_leq, ↓z_gtr, ↓z_geq, ↓z_not, ↓z_neg, ↓z_fin_int, ↓z_fin_bool, ↓z_fin_str, ↓z_ent_int, ↓z_ent_bool, ↓z_ent_str, ↓z_stn, ↓z_ldnn, ↓z_ldn0, ↓z_ldn1, ↓z_ldn2, ↓z_ldn3, ↓z_ldn4, ↓z_ldn5, ↓z_ldn6, ↓z_ldn7, ↓z_ldn8, List.drop_zero, List.drop_succ_cons, List.cons_append, List.nil_append, decide_eq_true_eq, decide_eq_false_iff_not, ite_not, ↓reduceIte, pub_agg, pub_int, pub_bool, pub_str, pub_fn, pub_vptr, pub_nilp, Nat.zero_add, List.length_cons, List.length_nil, Nat.reduceAdd, List.all_cons, List.all_nil, isCell_int, isCell_bool, isCell_str, isCell_sl, Bool.and_self, ↓z_loadn, Nat.reduceLeDiff, Nat.le_refl, List.take_succ_cons, List.take_zero, h, decide_false, Bool.false_eq_true, f52_j8_eq _ (PP_ok _ _ _), Prog.cs, List.length_map, z_finC_int hS]
    have := hR S hS
    simp -implicitDefEqProofs only [Prog.cs] at this
    rw [this, List.drop_of_length_le (by omega)]
    by_cases e : nx = p.roots.length
    · simp [scan, e]
    · have e' : ¬ (nx : Int) = (p.roots.length : Int) := by omega
      simp [scan, e, e']
  | succ n ih =>
    intro i nx hi hnx S hS
    rw [f52_l2_eq _ (PP_ok _ _ _)]
    have h : (i : Int) < (p.ins.length : Int) := by omega
    have ha : i < p.ins.length := by omega
    have ea : (p.ins.map Ins.enc)[i]? = some p.ins[i].enc := by simp [ha]
    have hw : IntKind.wrap .i64 ((i : Int) + 1) = ((i + 1 : Nat) : Int) := wrap_succ i (by omega)
    have hw2 : IntKind.wrap .i64 ((nx : Int) + 1) = ((nx + 1 : Nat) : Int) := wrap_succ nx (by omega)
    have hc : ∀ S, callω T1 G X 88 [.agg [.int .i64 p.ins[i].op, .int .i64 p.ins[i].a, .int .i64 p.ins[i].b], .int .i64 (i : Int), .int .i64 p.inputs] S = .ok (.bool (okIns p.ins[i] i p.inputs)) S := fun S => f88_ok G X p.ins[i] i p.inputs S
    rw [List.drop_eq_getElem_cons ha]
    generalize hx : p.ins[i] = x at *
    simp -implicitDefEqProofs only [↓z_ret, ↓z_val, ↓z_pick, ↓z_cond, ↓z_boxRo_agg, ↓z_boxRo_int, ↓z_boxRo_bool, ↓z_boxRo_str, ↓z_boxRo_sl, ↓z_boxRo_fn, ↓z_boxRo_vptr, ↓z_boxRo_ref, ↓z_len_sl, ↓z_len_msl, ↓z_len_str, ↓z_load1, ↓z_fa, ↓z_fa_ref, ↓z_callF, ↓z_andK, ↓z_orK, ↓z_and1, ↓z_and2, ↓z_and3, ↓z_and4, ↓z_and5, ↓z_and6, ↓z_and7, ↓z_and8, ↓z_and9, ↓z_and10, ↓z_and11, ↓z_and12, ↓z_or1, ↓z_or2, ↓z_or3, ↓z_or4, ↓z_or5, ↓z_or6, ↓z_or7, ↓z_or8, ↓z_or9, ↓z_or10, ↓z_or11, ↓z_or12, ↓z_add, ↓z_sub, ↓z_mul, ↓z_eql, ↓z_neq, ↓z_lss, ↓z_leq, ↓z_gtr, ↓z_geq, ↓z_not, ↓z_neg, ↓z_fin_int, ↓z_fin_bool, ↓z_fin_str, ↓z_ent_int, ↓z_ent_bool, ↓z_ent_str, ↓z_stn, ↓z_ldnn, ↓z_ldn0, ↓z_ldn1, ↓z_ldn2, ↓z_ldn3, ↓z_ldn4, ↓z_ldn5, ↓z_ldn6, ↓z_ldn7, ↓z_ldn8, List.drop_zero, List.drop_succ_cons, List.cons_append, List.nil_append, decide_eq_true_eq, decide_eq_false_iff_not, ite_not, ↓reduceIte, pub_agg, pub_int, pub_bool, pub_str, pub_fn, pub_vptr, pub_nilp, Nat.zero_add, List.length_cons, List.length_nil, Nat.reduceAdd, List.all_cons, List.all_nil, isCell_int, isCell_bool, isCell_str, isCell_sl, Bool.and_self, ↓z_loadn, Nat.reduceLeDiff, Nat.le_refl, List.take_succ_cons, List.take_zero, h, decide_true, if_true, f52_j3_eq _ (PP_ok _ _ _), f52_j4_eq _ (PP_ok _ _ _), f52_j5_eq _ (PP_ok _ _ _), f52_j6_eq _ (PP_ok _ _ _), f52_j7_eq _ (PP_ok _ _ _), z_idx _ _ _ _ _ _ ea, Ins.enc, Ins.cs, AV.cells, Prog.cs, z_call0 (hc _), z_finC_int (hS.new _), hw, hw2]
    have ih' := fun nx hnx o => ih (i + 1) nx (by omega) hnx (S.new o) (hS.new o)
    simp -implicitDefEqProofs only [Prog.cs] at ih'
    simp -implicitDefEqProofs only [scan]
    by_cases hok : okIns x i p.inputs = true
    · simp -implicitDefEqProofs only [hok, Bool.not_true, Bool.false_eq_true, ↓reduceIte]
      by_cases h6 : x.op = 6
      · simp -implicitDefEqProofs only [h6, ↓reduceIte, List.length_map]
        by_cases hr : nx = p.roots.length
        · have e1 : (nx : Int) = (p.roots.length : Int) := by omega
          have e2 : p.roots[nx]? = none := List.getElem?_eq_none (by omega)
          simp [e1, e2]
        · have e1 : ¬ (nx : Int) = (p.roots.length : Int) := by omega
          have hlt : nx < p.roots.length := by omega
          have er : (p.roots.map I)[nx]? = some (I p.roots[nx]) := by simp [hlt]
          have er2 : p.roots[nx]? = some p.roots[nx] := List.getElem?_eq_getElem hlt
          simp -implicitDefEqProofs only [e1, ↓z_ret, ↓z_val, ↓z_pick, ↓z_cond, ↓z_boxRo_agg, ↓z_boxRo_int, ↓z_boxRo_bool, ↓z_boxRo_str, ↓z_boxRo_sl, ↓z_boxRo_fn, ↓z_boxRo_vptr, ↓z_boxRo_ref, ↓z_len_sl, ↓z_len_msl, ↓z_len_str, ↓z_load1, ↓z_fa, ↓z_fa_ref, ↓z_callF, ↓z_andK, ↓z_orK, ↓z_and1, ↓z_and2, ↓z_and3, ↓z_and4, ↓z_and5, ↓z_and6, ↓z_and7, ↓z_and8, ↓z_and9, ↓z_and10, ↓z_and11, ↓z_and12, ↓z_or1, ↓z_or2, ↓z_or3, ↓z_or4, ↓z_or5, ↓z_or6, ↓z_or7, ↓z_or8, ↓z_or9, ↓z_or10, ↓z_or11, ↓z_or12, ↓z_add, ↓z_sub, ↓z_mul, ↓z_eql, ↓z_neq, ↓z_lss, ↓z_leq, ↓z_gtr, ↓z_geq, ↓z_not, ↓z_neg, ↓z_fin_int, ↓z_fin_bool, ↓z_fin_str, ↓z_ent_int, ↓z_ent_bool, ↓z_ent_str, ↓z_stn, ↓z_ldnn, ↓z_ldn0, ↓z_ldn1, ↓z_ldn2, ↓z_ldn3, ↓z_ldn4, ↓z_ldn5, ↓z_ldn6, ↓z_ldn7, ↓z_ldn8, List.drop_zero, List.drop_succ_cons, List.cons_append, List.nil_append, decide_eq_true_eq, decide_eq_false_iff_not, ite_not, ↓reduceIte, pub_agg, pub_int, pub_bool, pub_str, pub_fn, pub_vptr, pub_nilp, Nat.zero_add, List.length_cons, List.length_nil, Nat.reduceAdd, List.all_cons, List.all_nil, isCell_int, isCell_bool, isCell_str, isCell_sl, Bool.and_self, ↓z_loadn, Nat.reduceLeDiff, Nat.le_refl, List.take_succ_cons, List.take_zero, z_idx _ _ _ _ _ _ er, AV.cells, z_finC_int (hS.new _), er2]
          by_cases hri : p.roots[nx] = (i : Int)
          · simp -implicitDefEqProofs only [hri, not_true_eq_false, ↓reduceIte, ih' (nx + 1) (by omega)]
          · simp [hri]
      · simp -implicitDefEqProofs only [h6, ↓reduceIte, ih' nx hnx]
    · simp [hok]
theorem f52_ok (p : Prog) (s : St) (hv : p.vals.length ≤ 9223372036854775807) (hvv : ∀ v, v ∈ p.vals → v.1.length ≤ 9223372036854775807) : callω T1 G X 52 [p.enc] s = .ok (I p.check) s := by
  rw [f52_call, f52_eq]
  simp -implicitDefEqProofs only [Prog.enc, Prog.cs, ↓z_ret, ↓z_val, ↓z_pick, ↓z_cond, ↓z_boxRo_agg, ↓z_boxRo_int, ↓z_boxRo_bool, ↓z_boxRo_str, ↓z_boxRo_sl, ↓z_boxRo_fn, ↓z_boxRo_vptr, ↓z_boxRo_ref, ↓z_len_sl, ↓z_len_msl, ↓z_len_str, ↓z_load1, ↓z_fa, ↓z_fa_ref, ↓z_callF, ↓z_andK, ↓z_orK, ↓z_and1, ↓z_and2, ↓z_and3, ↓z_and4, ↓z_and5, ↓z_and6, ↓z_and7, ↓z_and8, ↓z_and9, ↓z_and10, ↓z_and11, ↓z_and12, ↓z_or1, ↓z_or2, ↓z_or3, ↓z_or4, ↓z_or5, ↓z_or6, ↓z_or7, ↓z_or8, ↓z_or9, ↓z_or10, ↓z_or11, ↓z_or12, ↓z_add, ↓z_sub, ↓z_mul, ↓z_eql, ↓z_neq, ↓z_lss, ↓z_leq, ↓z_gtr, ↓z_geq, ↓z_not, ↓z_neg, ↓z_fin_int, ↓z_fin_bool, ↓z_fin_str, ↓z_ent_int, ↓z_ent_bool, ↓z_ent_str, ↓z_stn, ↓z_ldnn, ↓z_ldn0, ↓z_ldn1, ↓z_ldn2, ↓z_ldn3, ↓z_ldn4, ↓z_ldn5, ↓z_ldn6, ↓z_ldn7, ↓z_ldn8, List.drop_zero, List.drop_succ_cons, List.cons_append, List.nil_append, decide_eq_true_eq, decide_eq_false_iff_not, ite_not, ↓reduceIte, pub_agg, pub_int, pub_bool, pub_str, pub_fn, pub_vptr, pub_nilp, Nat.zero_add, List.length_cons, List.length_nil, Nat.reduceAdd, List.all_cons, List.all_nil, isCell_int, isCell_bool, isCell_str, isCell_sl, Bool.and_self, ↓z_loadn, Nat.reduceLeDiff, Nat.le_refl, List.take_succ_cons, List.take_zero, List.length_map, f52_j1_eq _ (PP_ok _ _ _)]
  have h10 := fun S hS => f52_l10_ok G X p s hv hvv p.vals.length 0 (by omega) S hS
  simp -implicitDefEqProofs only [Int.natCast_zero, List.drop_zero, Prog.cs] at h10
  by_cases c1 : p.inputs < 0
  · simp [c1, Prog.check]
  by_cases c2 : 20 < p.inputs
  · simp [c1, c2, Prog.check]
  by_cases c3 : 8192 < p.ins.length
  · have c3' : (8192 : Int) < (p.ins.length : Int) := by omega
    simp [c1, c2, c3, c3', Prog.check]
  by_cases c4 : 5 < p.roots.length
  · have c4' : (5 : Int) < (p.roots.length : Int) := by omega
    simp [c1, c2, c3, c4, c4', Prog.check]
  have c3' : ¬ (8192 : Int) < (p.ins.length : Int) := by omega
  have c4' : ¬ (5 : Int) < (p.roots.length : Int) := by omega
  have h2 := f52_l2_ok G X p s (by omega) (by omega) (.ok (I (if (p.vals.all fun v => okVal p.ins.length v.1) = true then 0 else 3)) s) (fun S hS => by
    rw [f52_j9_eq _ (PP_ok _ _ _)]
    simp -implicitDefEqProofs only [Prog.cs, ↓z_ret, ↓z_val, ↓z_pick, ↓z_cond, ↓z_boxRo_agg, ↓z_boxRo_int, ↓z_boxRo_bool, ↓z_boxRo_str, ↓z_boxRo_sl, ↓z_boxRo_fn, ↓z_boxRo_vptr, ↓z_boxRo_ref, ↓z_len_sl, ↓z_len_msl, ↓z_len_str, ↓z_load1, ↓z_fa, ↓z_fa_ref, ↓z_callF, ↓z_andK, ↓z_orK, ↓z_and1, ↓z_and2, ↓z_and3, ↓z_and4, ↓z_and5, ↓z_and6, ↓z_and7, ↓z_and8, ↓z_and9, ↓z_and10, ↓z_and11, ↓z_and12, ↓z_or1, ↓z_or2, ↓z_or3, ↓z_or4, ↓z_or5, ↓z_or6, ↓z_or7, ↓z_or8, ↓z_or9, ↓z_or10, ↓z_or11, ↓z_or12, ↓z_add, ↓z_sub, ↓z_mul, ↓z_eql, ↓z_neq, ↓z_lss, ↓z_leq, ↓z_gtr, ↓z_geq, ↓z_not, ↓z_neg, ↓z_fin_int, ↓z_fin_bool, ↓z_fin_str, ↓z_ent_int, ↓z_ent_bool, ↓z_ent_str, ↓z_stn, ↓z_ldnn, ↓z_ldn0, ↓z_ldn1, ↓z_ldn2, ↓z_ldn3, ↓z_ldn4, ↓z_ldn5, ↓z_ldn6, ↓z_ldn7, ↓z_ldn8, List.drop_zero, List.drop_succ_cons, List.cons_append, List.nil_append, decide_eq_true_eq, decide_eq_false_iff_not, ite_not, ↓reduceIte, pub_agg, pub_int, pub_bool, pub_str, pub_fn, pub_vptr, pub_nilp, Nat.zero_add, List.length_cons, List.length_nil, Nat.reduceAdd, List.all_cons, List.all_nil, isCell_int, isCell_bool, isCell_str, isCell_sl, Bool.and_self, ↓z_loadn, Nat.reduceLeDiff, Nat.le_refl, List.take_succ_cons, List.take_zero, List.length_map, h10 S hS]) p.ins.length 0 0 (by omega) (by omega) s.enter (.enter s)
  simp -implicitDefEqProofs only [Int.natCast_zero, List.drop_zero, Prog.cs] at h2
  simp -implicitDefEqProofs only [c1, c2, c3', c4', if_false, h2, Prog.check, c3, c4, or_self]
  split
  · rename_i e
    simp -implicitDefEqProofs only [e, true_and]
  · rename_i e
    simp -implicitDefEqProofs only [e, false_and, if_false]
end Go.AbX
end
section
namespace Go.AbX
open Go.Ab
variable (G : Nat → AV) (X : Nat → List AV → St → Res)
set_option linter.unusedSimpArgs false
set_option linter.unusedVariables false
theorem f16_l12_ok (p : Prog) (v : List Int) (s : St) (g : Gr) (R : Res) (c6 : Int) (hv : v.length ≤ 9223372036854775807) (hR : ∀ (S : St), Child s S → f16_j15 (PP T1 G X) (.vptr p.cs) (I c6) S = R) : ∀ (n i : Nat), i + n = v.length → ∀ (S : St), Child s S →
    f16_l12 (PP T1 G X) (.vptr p.cs) (I c6) (.sl 1 (v.map I) g) (.int .i64 (i : Int)) S = (if (v.drop i).all (inReg p.ins.length) = true then R else .ok (I 3) s) := by
  intro n
  induction n with
  | zero =>
    intro i hi S hS
    rw [f16_l12_eq _ (PP_ok _ _ _)]
    have h : ¬ ((i : Int) < (v.length : Int)) := by omega
    simp -implicitDefEqProofs only [↓z_ret, ↓z_val, ↓z_pick, ↓z_cond, ↓z_boxRo_agg, ↓z_boxRo_int, ↓z_boxRo_bool, ↓z_boxRo_str, ↓z_boxRo_sl, ↓z_boxRo_fn, ↓z_boxRo_vptr, ↓z_boxRo_ref, ↓z_len_sl, ↓z_len_msl, ↓z_len_str, ↓z_load1, ↓z_fa, ↓z_fa_ref, ↓z_callF, ↓z_andK, ↓z_orK, ↓z_and1, ↓z_and2, ↓z_and3, ↓z_and4, ↓z_and5, ↓z_and6, ↓z_and7, ↓z_and8, ↓z_and9, ↓z_and10, ↓z_and11, ↓z_and12, ↓z_or1, ↓z_or2, ↓z_or3, ↓z_or4, ↓z_or5, ↓z_or6, ↓z_or7, ↓z_or8, ↓z_or9, ↓z_or10, ↓z_or11, ↓z_or12, ↓z_add, ↓z_sub, ↓z_mul, ↓z_eql, ↓z_neq, ↓z_lss, ↓z_leq, ↓z_gtr, ↓z_geq, ↓z_not, ↓z_neg, ↓z_fin_int, ↓z_fin_bool, ↓z_fin_str, ↓z_ent_int, ↓z_ent_bool, ↓z_ent_str, ↓z_stn, ↓z_ldnn, ↓z_ldn0, ↓z_ldn1, ↓z_ldn2, ↓z_ldn3, ↓z_ldn4, ↓z_ldn5, ↓z_ldn6, ↓z_ldn7, ↓z_ldn8, List.drop_zero, List.drop_succ_cons, List.cons_append, List.nil_append, decide_eq_true_eq, decide_eq_false_iff_not, ite_not, ↓reduceIte, pub_agg, pub_int, pub_bool, pub_str, pub_fn, pub_vptr, pub_nilp, Nat.zero_add, List.length_cons, List.length_nil, Nat.reduceAdd, List.all_cons, List.all_nil, isCell_int, isCell_bool, isCell_str, isCell_sl, Bool.and_self, ↓z_loadn, Nat.reduceLeDiff, Nat.le_refl, List.take_succ_cons, List.take_zero, List.length_map, h, decide_false, Bool.false_eq_true]
    rw [List.drop_of_length_le (by omega)]
    simp
    exact hR S hS
  | succ n ih =>
    intro i hi S hS
    rw [f16_l12_eq _ (PP_ok _ _ _)]
    have h : (i : Int) < (v.length : Int) := by omega
    have ha : i < v.length := by omega
    have ea : (v.map I)[i]? = some (I v[i]) := by simp [ha]
    have hw : IntKind.wrap .i64 ((i : Int) + 1) = ((i + 1 : Nat) : Int) := wrap_succ i (by omega)
    have := ih (i + 1) (by omega) S hS
    simp -implicitDefEqProofs only [Prog.cs] at this
    simp -implicitDefEqProofs only [↓z_ret, ↓z_val, ↓z_pick, ↓z_cond, ↓z_boxRo_agg, ↓z_boxRo_int, ↓z_boxRo_bool, ↓z_boxRo_str, ↓z_boxRo_sl, ↓z_boxRo_fn, ↓z_boxRo_vptr, ↓z_boxRo_ref, ↓z_len_sl, ↓z_len_msl, ↓z_len_str, ↓z_load1, ↓z_fa, ↓z_fa_ref, ↓z_callF, ↓z_andK, ↓z_orK, ↓z_and1, ↓z_and2, ↓z_and3, ↓z_and4, ↓z_and5, ↓z_and6, ↓z_and7, ↓z_and8, ↓z_and9, ↓z_and10, ↓z_and11, ↓z_and12, ↓z_or1, ↓z_or2, ↓z_or3, ↓z_or4, ↓z_or5, ↓z_or6, ↓z_or7, ↓z_or8, ↓z_or9, ↓z_or10, ↓z_or11, ↓z_or12, ↓z_add, ↓z_sub, ↓z_mul, ↓z_eql, ↓z_neq, ↓z_lss, ↓z_leq, ↓z_gtr, ↓z_geq, ↓z_not, ↓z_neg, ↓z_fin_int, ↓z_fin_bool, ↓z_fin_str, ↓z_ent_int, ↓z_ent_bool, ↓z_ent_str, ↓z_stn, ↓z_ldnn, ↓z_ldn0, ↓z_ldn1, ↓z_ldn2, ↓z_ldn3, ↓z_ldn4, ↓z_ldn5, ↓z_ldn6, ↓z_ldn7, ↓z_ldn8, List.drop_zero, List.drop_succ_cons, List.cons_append, List.nil_append, decide_eq_true_eq, decide_eq_false_iff_not, ite_not, ↓reduceIte, pub_agg, pub_int, pub_bool, pub_str, pub_fn, pub_vptr, pub_nilp, Nat.zero_add, List.length_cons, List.length_nil, Nat.reduceAdd, List.all_cons, List.all_nil, isCell_int, isCell_bool, isCell_str, isCell_sl, Bool.and_self, ↓z_loadn, Nat.reduceLeDiff, Nat.le_refl, List.take_succ_cons, List.take_zero, h, decide_true, if_true, f16_j13_eq _ (PP_ok _ _ _), f16_j14_eq _ (PP_ok _ _ _), z_idx _ _ _ _ _ _ ea, AV.cells, Prog.cs, List.length_map, hw, z_finC_int hS]
    rw [this, List.drop_eq_getElem_cons ha]
    simp -implicitDefEqProofs only [List.all_cons, inReg]
    by_cases h1 : v[i] < 0
    · have : ¬ (0 ≤ v[i]) := by omega
      simp [h1, this]
    · by_cases h2 : (p.ins.length : Int) ≤ v[i]
      · have : ¬ (v[i] < (p.ins.length : Int)) := by omega
        simp [h1, h2, this]
      · have h1' : 0 ≤ v[i] := by omega
        have h2' : v[i] < (p.ins.length : Int) := by omega
        simp [h1, h2, h1', h2', inReg]

theorem f16_l9_ok (p : Prog) (s : St) (hv : p.vals.length ≤ 9223372036854775807) (hvv : ∀ v, v ∈ p.vals → v.1.length ≤ 9223372036854775807) : ∀ (n i : Nat), i + n = p.vals.length → ∀ (S : St), Child s S →
    f16_l9 (PP T1 G X) (.vptr p.cs) (.int .i64 (i : Int)) S = .ok (I (if ((p.vals.drop i).all fun v => okVal p.ins.length v.1) = true then 0 else 3)) s := by
  intro n
  induction n with
  | zero =>
    intro i hi S hS
    rw [f16_l9_eq _ (PP_ok _ _ _)]
    have h : ¬ ((i : Int) < (p.vals.length : Int)) := by omega
    simp -implicitDefEqProofs only [↓z_ret, ↓z_val, ↓z_pick, ↓z_cond, ↓z_boxRo_agg, ↓z_boxRo_int, ↓z_boxRo_bool, ↓z_boxRo_str, ↓z_boxRo_sl, ↓z_boxRo_fn, ↓z_boxRo_vptr, ↓z_boxRo_ref, ↓z_len_sl, ↓z_len_msl, ↓z_len_str, ↓z_load1, ↓z_fa, ↓z_fa_ref, ↓z_callF, ↓z_andK, ↓z_orK, ↓z_and1, ↓z_and2, ↓z_and3, ↓z_and4, ↓z_and5, ↓z_and6, ↓z_and7, ↓z_and8, ↓z_and9, ↓z_and10, ↓z_and11, ↓z_and12, ↓z_or1, ↓z_or2, ↓z_or3, ↓z_or4, ↓z_or5, ↓z_or6, ↓z_or7, ↓z_or8, ↓z_or9, ↓z_or10, ↓z_or11, ↓z_or12, ↓z_add, ↓z_sub, ↓z_mul, ↓z_eql, ↓z_neq, ↓z_lss, ↓z_leq, ↓z_gtr, ↓z_geq, ↓z_not, ↓z_neg, ↓z_fin_int, ↓z_fin_bool, ↓z_fin_str, ↓z_ent_int, ↓z_ent_bool, ↓z_ent_str, ↓z_stn, ↓z_ldnn, ↓z_ldn0, ↓z_ldn1, ↓z_ldn2, ↓z_ldn3, ↓z_ldn4, ↓z_ldn5, ↓z_ldn6, ↓z_ldn7, ↓z_ldn8, List.drop_zero, List.drop_succ_cons, List.cons_append, List.nil_append, decide_eq_true_eq, decide_eq_false_iff_not, ite_not, ↓reduceIte, pub_agg, pub_int, pub_bool, pub_str, pub_fn, pub_vptr, pub_nilp, Nat.zero_add, List.length_cons, List.length_nil, Nat.reduceAdd, List.all_cons, List.all_nil, isCell_int, isCell_bool, isCell_str, isCell_sl, Bool.and_self, ↓z_loadn, Nat.reduceLeDiff, Nat.le_refl, List.take_succ_cons, List.take_zero, Prog.cs, List.length_map, h, decide_false, Bool.false_eq_true, f16_j16_eq _ (PP_ok _ _ _), z_finC_int hS]
    rw [List.drop_of_length_le (by omega)]
    simp
  | succ n ih =>
    intro i hi S hS
    rw [f16_l9_eq _ (PP_ok _ _ _)]
    have h : (i : Int) < (p.vals.length : Int) := by omega
    have ha : i < p.vals.length := by omega
    have ea : (p.vals.map fun v => sl1 v.1 v.2)[i]? = some (sl1 p.vals[i].1 p.vals[i].2) := by simp [ha]
    have hw : IntKind.wrap .i64 ((i : Int) + 1) = ((i + 1 : Nat) : Int) := wrap_succ i (by omega)
    have hl := hvv p.vals[i] (List.getElem_mem ha)
    have key := fun S hS => f16_l12_ok G X p p.vals[i].1 s p.vals[i].2 (.ok (I (if ((p.vals.drop (i + 1)).all fun v => okVal p.ins.length v.1) = true then 0 else 3)) s) i hl (fun S hS => by
      rw [f16_j15_eq _ (PP_ok _ _ _)]
      simp -implicitDefEqProofs only [↓z_ret, ↓z_val, ↓z_pick, ↓z_cond, ↓z_boxRo_agg, ↓z_boxRo_int, ↓z_boxRo_bool, ↓z_boxRo_str, ↓z_boxRo_sl, ↓z_boxRo_fn, ↓z_boxRo_vptr, ↓z_boxRo_ref, ↓z_len_sl, ↓z_len_msl, ↓z_len_str, ↓z_load1, ↓z_fa, ↓z_fa_ref, ↓z_callF, ↓z_andK, ↓z_orK, ↓z_and1, ↓z_and2, ↓z_and3, ↓z_and4, ↓z_and5, ↓z_and6, ↓z_and7, ↓z_and8, ↓z_and9, ↓z_and10, ↓z_and11, ↓z_and12, ↓z_or1, ↓z_or2, ↓z_or3, ↓z_or4, ↓z_or5, ↓z_or6, ↓z_or7, ↓z_or8, ↓z_or9, ↓z_or10, ↓z_or11, ↓z_or12, ↓z_add, ↓z_sub, ↓z_mul, ↓z_eql, ↓z_neq, ↓z_lss, ↓z_leq, ↓z_gtr, ↓z_geq, ↓z_not, ↓z_neg, ↓z_fin_int, ↓z_fin_bool, ↓z_fin_str, ↓z_ent_int, ↓z_ent_bool, ↓z_ent_str, ↓z_stn, ↓z_ldnn, ↓z_ldn0, ↓z_ldn1, ↓z_ldn2, ↓z_ldn3, ↓z_ldn4, ↓z_ldn5, ↓z_ldn6, ↓z_ldn7, ↓z_ldn8, List.drop_zero, List.drop_succ_cons, List.cons_append, List.nil_append, decide_eq_true_eq, decide_eq_false_iff_not, ite_not, ↓reduceIte, pub_agg, pub_int, pub_bool, pub_str, pub_fn, pub_vptr, pub_nilp, Nat.zero_add, List.length_cons, List.length_nil, Nat.reduceAdd, List.all_cons, List.all_nil, isCell_int, isCell_bool, isCell_str, isCell_sl, Bool.and_self, ↓z_loadn, Nat.reduceLeDiff, Nat.le_refl, List.take_succ_cons, List.take_zero, hw]
      exact ih (i + 1) (by omega) S hS) p.vals[i].1.length 0 (by omega) S hS
    simp -implicitDefEqProofs only [Int.natCast_zero, List.drop_zero, Prog.cs] at key
    simp -implicitDefEqProofs only [↓z_ret, ↓z_val, ↓z_pick, ↓z_cond, ↓z_boxRo_agg, ↓z_boxRo_int, ↓z_boxRo_bool, ↓z_boxRo_str, ↓z_boxRo_sl, ↓z_boxRo_fn, ↓z_boxRo_vptr, ↓z_boxRo_ref, ↓z_len_sl, ↓z_len_msl, ↓z_len_str, ↓z_load1, ↓z_fa, ↓z_fa_ref, ↓z_callF, ↓z_andK, ↓z_orK, ↓z_and1, ↓z_and2, ↓z_and3, ↓z_and4, ↓z_and5, ↓z_and6, ↓z_and7, ↓z_and8, ↓z_and9, ↓z_and10, ↓z_and11, ↓z_and12, ↓z_or1, ↓z_or2, ↓z_or3, ↓z_or4, ↓z_or5, ↓z_or6, ↓z_or7, ↓z_or8, ↓z_or9, ↓z_or10, ↓z_or11, ↓z_or12, ↓z_add, ↓z_sub, ↓z_mul, ↓z_eql, ↓z_neq, ↓z_lss, ↓z_leq, ↓z_gtr, ↓z_geq, ↓z_not, ↓z_neg, ↓z_fin_int, ↓z_fin_bool, ↓z_fin_str, ↓z_ent_int, ↓z_ent_bool, ↓z_ent_str, ↓z_stn, ↓z_ldnn, ↓z_ldn0, ↓z_ldn1, ↓z_ldn2, ↓z_ldn3, ↓z_ldn4, ↓z_ldn5, ↓z_ldn6, ↓z_ldn7, ↓z_ldn8, List.drop_zero, List.drop_succ_cons, List.cons_append, List.nil_append, decide_eq_true_eq, decide_eq_false_iff_not, ite_not, ↓reduceIte, pub_agg, pub_int, pub_bool, pub_str, pub_fn, pub_vptr, pub_nilp, Nat.zero_add, List.length_cons, List.length_nil, Nat.reduceAdd, List.all_cons, List.all_nil, isCell_int, isCell_bool, isCell_str, isCell_sl, Bool.and_self, ↓z_loadn, Nat.reduceLeDiff, Nat.le_refl, List.take_succ_cons, List.take_zero, Prog.cs, List.length_map, h, decide_true, if_true, f16_j10_eq _ (PP_ok _ _ _), f16_j11_eq _ (PP_ok _ _ _), z_idx _ _ _ _ _ _ ea, AV.cells, z_finC_int hS]
    simp -implicitDefEqProofs only [key S hS]
    rw [List.drop_eq_getElem_cons ha]
    rw [List.all_cons, show okVal p.ins.length p.vals[i].1 = (decide (p.vals[i].1.length = 3 ∨ p.vals[i].1.length = 7) && p.vals[i].1.all (inReg p.ins.length)) from rfl]
    generalize ((p.vals.drop (i + 1)).all fun v => okVal p.ins.length v.1) = Q
    by_cases h3 : p.vals[i].1.length = 3
    · by_cases hall : p.vals[i].1.all (inReg p.ins.length) = true <;> simp [h3, hall]
    · by_cases h7 : p.vals[i].1.length = 7
      · by_cases hall : p.vals[i].1.all (inReg p.ins.length) = true <;> simp [h7, hall]
      · have e3 : ¬ (p.vals[i].1.length : Int) = 3 := by omega
        have e7 : ¬ (p.vals[i].1.length : Int) = 7 := by omega
        simp [h3, h7, e3, e7]

theorem f16_l2_ok (p : Prog) (s : St) (h8 : p.ins.length ≤ 8192) (h5 : p.roots.length ≤ 5) (R : Res) (hR : ∀ S, Child s S → f16_j8 (PP T1 G X) (.vptr p.cs) S = R) : ∀ (n i nx : Nat), i + n = p.ins.length → nx ≤ p.roots.length → ∀ (S : St), Child s S →
    f16_l2 (PP T1 G X) (.vptr p.cs) (.int .i64 (nx : Int)) (.int .i64 (i : Int)) S = if scan p.roots p.inputs (p.ins.drop i) i nx = some p.roots.length then R else .ok (I 3) s := by
  intro n
  induction n with
  | zero =>
    intro i nx hi hnx S hS
    rw [f16_l2_eq _ (PP_ok _ _ _)]
    have h : ¬ ((i : Int) < (p.ins.length : Int)) := by omega
    have := hR S hS
    simp -implicitDefEqProofs only [Prog.cs] at this
    simp -implicitDefEqProofs only [↓z_ret, ↓z_val, ↓z_pick, ↓z_cond, ↓z_boxRo_agg, ↓z_boxRo_int, ↓z_boxRo_bool, ↓z_boxRo_str, ↓z_boxRo_sl, ↓z_boxRo_fn, ↓z_boxRo_vptr, ↓z_boxRo_ref, ↓z_len_sl, ↓z_len_msl, ↓z_len_str, ↓z_load1, ↓z_fa, ↓z_fa_ref, ↓z_callF, ↓z_andK, ↓z_orK, ↓z_and1, ↓z_and2, ↓z_and3, ↓z_and4, ↓z_and5, ↓z_and6, ↓z_and7, ↓z_and8, ↓z_and9, ↓z_and10, ↓z_and11, ↓z_and12, ↓z_or1, ↓z_or2, ↓z_or3, ↓z_or4, ↓z_or5, ↓z_or6, ↓z_or7, ↓z_or8, ↓z_or9, ↓z_or10, ↓z_or11, ↓z_or12, ↓z_add, ↓z_sub, ↓z_mul, ↓z_eql, ↓z_neq, ↓z_lss, ↓z_leq, ↓z_gtr, ↓z_geq, ↓z_not, ↓z_neg, ↓z_fin_int, ↓z_fin_bool, ↓z_fin_str, ↓z_ent_int, ↓z_ent_bool, ↓z_ent_str, ↓z_stn, ↓z_ldnn, ↓z_ldn0, ↓z_ldn1, ↓z_ldn2, ↓z_ldn3, ↓z_ldn4, ↓z_ldn5, ↓z_ldn6, ↓z_ldn7, ↓z_ldn8, List.drop_zero, List.drop_succ_cons, List.cons_append, List.nil_append, decide_eq_true_eq, decide_eq_false_iff_not, ite_not, ↓reduceIte, pub_agg, pub_int, pub_bool, pub_str, pub_fn, pub_vptr, pub_nilp, Nat.zero_add, List.length_cons, List.length_nil, Nat.reduceAdd, List.all_cons, List.all_nil, isCell_int, isCell_bool, isCell_str, isCell_sl, Bool.and_self, ↓z_loadn, Nat.reduceLeDiff, Nat.le_refl, List.take_succ_cons, List.take_zero, Prog.cs, List.length_map, h, decide_false, Bool.false_eq_true, f16_j7_eq _ (PP_ok _ _ _), z_finC_int hS]
    rw [this, List.drop_of_length_le (by omega)]
    by_cases e : nx = p.roots.length
    · simp [scan, e]
    · have e' : ¬ (nx : Int) = (p.roots.length : Int) := by omega
      simp [scan, e, e']
  | succ n ih =>
    intro i nx hi hnx S hS
    rw [f16_l2_eq _ (PP_ok _ _ _)]
    have h : (i : Int) < (p.ins.length : Int) := by omega
    have ha : i < p.ins.length := by omega
    have ea : (p.ins.map Ins.enc)[i]? = some p.ins[i].enc := by simp [ha]
    have hw : IntKind.wrap .i64 ((i : Int) + 1) = ((i + 1 : Nat) : Int) := wrap_succ i (by omega)
    have hw2 : IntKind.wrap .i64 ((nx : Int) + 1) = ((nx + 1 : Nat) : Int) := wrap_succ nx (by omega)
    have hc : ∀ S, callω T1 G X 51 [.agg [.int .i64 p.ins[i].op, .int .i64 p.ins[i].a, .int .i64 p.ins[i].b], .int .i64 (i : Int), .int .i64 p.inputs] S = .ok (.bool (okIns p.ins[i] i p.inputs)) S := fun S => f51_ok G X p.ins[i] i p.inputs S
    have ih' := fun nx hnx => ih (i + 1) nx (by omega) hnx S hS
    simp -implicitDefEqProofs only [Prog.cs] at ih'
    rw [List.drop_eq_getElem_cons ha]
    generalize hx : p.ins[i] = x at *
    simp -implicitDefEqProofs only [↓z_ret, ↓z_val, ↓z_pick, ↓z_cond, ↓z_boxRo_agg, ↓z_boxRo_int, ↓z_boxRo_bool, ↓z_boxRo_str, ↓z_boxRo_sl, ↓z_boxRo_fn, ↓z_boxRo_vptr, ↓z_boxRo_ref, ↓z_len_sl, ↓z_len_msl, ↓z_len_str, ↓z_load1, ↓z_fa, ↓z_fa_ref, ↓z_callF, ↓z_andK, ↓z_orK, ↓z_and1, ↓z_and2, ↓z_and3, ↓z_and4, ↓z_and5, ↓z_and6, ↓z_and7, ↓z_and8, ↓z_and9, ↓z_and10, ↓z_and11, ↓z_and12, ↓z_or1, ↓z_or2, ↓z_or3, ↓z_or4, ↓z_or5, ↓z_or6, ↓z_or7, ↓z_or8, ↓z_or9, ↓z_or10, ↓z_or11, ↓z_or12, ↓z_add, ↓z_sub, ↓z_mul, ↓z_eql, ↓z_neq, ↓z_lss, ↓z_leq, ↓z_gtr, ↓z_geq, ↓z_not, ↓z_neg, ↓z_fin_int, ↓z_fin_bool, ↓z_fin_str, ↓z_ent_int, ↓z_ent_bool, ↓z_ent_str, ↓z_stn, ↓z_ldnn, ↓z_ldn0, ↓z_ldn1, ↓z_ldn2, ↓z_ldn3, ↓z_ldn4, ↓z_ldn5, ↓z_ldn6, ↓z_ldn7, ↓z_ldn8, List.drop_zero, List.drop_succ_cons, List.cons_append, List.nil_append, decide_eq_true_eq, decide_eq_false_iff_not, ite_not, ↓reduceIte, pub_agg, pub_int, pub_bool, pub_str, pub_fn, pub_vptr, pub_nilp, Nat.zero_add, List.length_cons, List.length_nil, Nat.reduceAdd, List.all_cons, List.all_nil, isCell_int, isCell_bool, isCell_str, isCell_sl, Bool.and_self, ↓z_loadn, Nat.reduceLeDiff, Nat.le_refl, List.take_succ_cons, List.take_zero, Prog.cs, List.length_map, h, decide_true, if_true, f16_j3_eq _ (PP_ok _ _ _), f16_j4_eq _ (PP_ok _ _ _), f16_j5_eq _ (PP_ok _ _ _), f16_j6_eq _ (PP_ok _ _ _), z_idx _ _ _ _ _ _ ea, Ins.enc, Ins.cs, AV.cells, z_call0 (hc _), z_finC_int hS, hw, hw2]
    simp -implicitDefEqProofs only [scan]
    by_cases hok : okIns x i p.inputs = true
    · simp -implicitDefEqProofs only [hok, Bool.not_true, Bool.false_eq_true, ↓reduceIte]
      by_cases h6 : x.op = 6
      · simp -implicitDefEqProofs only [h6, ↓reduceIte, List.length_map]
        by_cases hr : nx = p.roots.length
        · have e1 : (p.roots.length : Int) ≤ (nx : Int) := by omega
          have e2 : p.roots[nx]? = none := List.getElem?_eq_none (by omega)
          simp [e1, e2]
        · have e1 : ¬ (p.roots.length : Int) ≤ (nx : Int) := by omega
          have hlt : nx < p.roots.length := by omega
          have er : (p.roots.map I)[nx]? = some (I p.roots[nx]) := by simp [hlt]
          have er2 : p.roots[nx]? = some p.roots[nx] := List.getElem?_eq_getElem hlt
          simp -implicitDefEqProofs only [e1, ↓z_ret, ↓z_val, ↓z_pick, ↓z_cond, ↓z_boxRo_agg, ↓z_boxRo_int, ↓z_boxRo_bool, ↓z_boxRo_str, ↓z_boxRo_sl, ↓z_boxRo_fn, ↓z_boxRo_vptr, ↓z_boxRo_ref, ↓z_len_sl, ↓z_len_msl, ↓z_len_str, ↓z_load1, ↓z_fa, ↓z_fa_ref, ↓z_callF, ↓z_andK, ↓z_orK, ↓z_and1, ↓z_and2, ↓z_and3, ↓z_and4, ↓z_and5, ↓z_and6, ↓z_and7, ↓z_and8, ↓z_and9, ↓z_and10, ↓z_and11, ↓z_and12, ↓z_or1, ↓z_or2, ↓z_or3, ↓z_or4, ↓z_or5, ↓z_or6, ↓z_or7, ↓z_or8, ↓z_or9, ↓z_or10, ↓z_or11, ↓z_or12, ↓z_add, ↓z_sub, ↓z_mul, ↓z_eql, ↓z_neq, ↓z_lss, ↓z_leq, ↓z_gtr, ↓z_geq, ↓z_not, ↓z_neg, ↓z_fin_int, ↓z_fin_bool, ↓z_fin_str, ↓z_ent_int, ↓z_ent_bool, ↓z_ent_str, ↓z_stn, ↓z_ldnn, ↓z_ldn0, ↓z_ldn1, ↓z_ldn2, ↓z_ldn3, ↓z_ldn4, ↓z_ldn5, ↓z_ldn6, ↓z_ldn7, ↓z_ldn8, List.drop_zero, List.drop_succ_cons, List.cons_append, List.nil_append, decide_eq_true_eq, decide_eq_false_iff_not, ite_not, ↓reduceIte, pub_agg, pub_int, pub_bool, pub_str, pub_fn, pub_vptr, pub_nilp, Nat.zero_add, List.length_cons, List.length_nil, Nat.reduceAdd, List.all_cons, List.all_nil, isCell_int, isCell_bool, isCell_str, isCell_sl, Bool.and_self, ↓z_loadn, Nat.reduceLeDiff, Nat.le_refl, List.take_succ_cons, List.take_zero, z_idx _ _ _ _ _ _ er, AV.cells, z_finC_int hS, er2]
          by_cases hri : p.roots[nx] = (i : Int)
          · simp -implicitDefEqProofs only [hri, not_true_eq_false, ↓reduceIte, ih' (nx + 1) (by omega)]
          · simp [hri]
      · simp -implicitDefEqProofs only [h6, ↓reduceIte, ih' nx hnx]
    · simp [hok]
theorem f16_ok (p : Prog) (s : St) (hv : p.vals.length ≤ 9223372036854775807) (hvv : ∀ v, v ∈ p.vals → v.1.length ≤ 9223372036854775807) : callω T1 G X 16 [p.enc] s = .ok (I p.check) s := by
  rw [f16_call, f16_eq]
  simp -implicitDefEqProofs only [Prog.enc, Prog.cs, ↓z_ret, ↓z_val, ↓z_pick, ↓z_cond, ↓z_boxRo_agg, ↓z_boxRo_int, ↓z_boxRo_bool, ↓z_boxRo_str, ↓z_boxRo_sl, ↓z_boxRo_fn, ↓z_boxRo_vptr, ↓z_boxRo_ref, ↓z_len_sl, ↓z_len_msl, ↓z_len_str, ↓z_load1, ↓z_fa, ↓z_fa_ref, ↓z_callF, ↓z_andK, ↓z_orK, ↓z_and1, ↓z_and2, ↓z_and3, ↓z_and4, ↓z_and5, ↓z_and6, ↓z_and7, ↓z_and8, ↓z_and9, ↓z_and10, ↓z_and11, ↓z_and12, ↓z_or1, ↓z_or2, ↓z_or3, ↓z_or4, ↓z_or5, ↓z_or6, ↓z_or7, ↓z_or8, ↓z_or9, ↓z_or10, ↓z_or11, ↓z_or12, ↓z_add, ↓z_sub, ↓z_mul, ↓z_eql, ↓z_neq, ↓z_lss, ↓z_leq, ↓z_gtr, ↓z_geq, ↓z_not, ↓z_neg, ↓z_fin_int, ↓z_fin_bool, ↓z_fin_str, ↓z_ent_int, ↓z_ent_bool, ↓z_ent_str, ↓z_stn, ↓z_ldnn, ↓z_ldn0, ↓z_ldn1, ↓z_ldn2, ↓z_ldn3, ↓z_ldn4, ↓z_ldn5, ↓z_ldn6, ↓z_ldn7, ↓z_ldn8, List.drop_zero, List.drop_succ_cons, List.cons_append, List.nil_append, decide_eq_true_eq, decide_eq_false_iff_not, ite_not, ↓reduceIte, pub_agg, pub_int, pub_bool, pub_str, pub_fn, pub_vptr, pub_nilp, Nat.zero_add, List.length_cons, List.length_nil, Nat.reduceAdd, List.all_cons, List.all_nil, isCell_int, isCell_bool, isCell_str, isCell_sl, Bool.and_self, ↓z_loadn, Nat.reduceLeDiff, Nat.le_refl, List.take_succ_cons, List.take_zero, List.length_map, f16_j1_eq _ (PP_ok _ _ _)]
  have h10 := fun S hS => f16_l9_ok G X p s hv hvv p.vals.length 0 (by omega) S hS
  simp -implicitDefEqProofs only [Int.natCast_zero, List.drop_zero, Prog.cs] at h10
  by_cases c1 : p.inputs < 0
  · simp [c1, Prog.check]
  by_cases c2 : 20 < p.inputs
  · simp [c1, c2, Prog.check]
  by_cases c3 : 8192 < p.ins.length
  · have c3' : (8192 : Int) < (p.ins.length : Int) := by omega
    simp [c1, c2, c3, c3', Prog.check]
  by_cases c4 : 5 < p.roots.length
  · have c4' : (5 : Int) < (p.roots.length : Int) := by omega
    simp [c1, c2, c3, c4, c4', Prog.check]
  have c3' : ¬ (8192 : Int) < (p.ins.length : Int) := by omega
  have c4' : ¬ (5 : Int) < (p.roots.length : Int) := by omega
  have h2 := f16_l2_ok G X p s (by omega) (by omega) (.ok (I (if (p.vals.all fun v => okVal p.ins.length v.1) = true then 0 else 3)) s) (fun S hS => by
    rw [f16_j8_eq _ (PP_ok _ _ _)]
    simp -implicitDefEqProofs only [Prog.cs, h10 S hS]) p.ins.length 0 0 (by omega) (by omega) s.enter (.enter s)
  simp -implicitDefEqProofs only [Int.natCast_zero, List.drop_zero, Prog.cs] at h2
  simp -implicitDefEqProofs only [c1, c2, c3', c4', if_false, h2, Prog.check, c3, c4, or_self]
  split
  · rename_i e
    simp -implicitDefEqProofs only [e, true_and]
  · rename_i e
    simp -implicitDefEqProofs only [e, false_and, if_false]
end Go.AbX
end
