/- The contracts of some functions of the program, as the abstract evaluator runs them: for every argument that their texts name. -/
import Derived.Test.YtnafklimohmfkaaGreatDoorX5
section
namespace Go.AbX
open Go.Ab
set_option linter.unusedSimpArgs false
set_option linter.unusedVariables false
set_option maxRecDepth 100000
theorem sm_get0 (b : Nat) (h : b < 100) : smTbl[b * 2]? = some (48 + b / 10) := by
  have : ∀ b : Fin 100, smTbl[b.val * 2]? = some (48 + b.val / 10) := by decide
  exact this ⟨b, h⟩
theorem sm_get1 (b : Nat) (h : b < 100) : smTbl[b * 2 + 1]? = some (48 + b % 10) := by
  have : ∀ b : Fin 100, smTbl[b.val * 2 + 1]? = some (48 + b.val % 10) := by decide
  exact this ⟨b, h⟩
/-- The frame of the array, and a frame behind it. -/
abbrev SA (cs : List AV) (U R : List (List AObj)) : St := { own := [.cells cs], up := U, ro := R }
theorem SA_dep (cs : List AV) (U R : List (List AObj)) : (SA cs U R).depth = U.length + R.length := rfl
theorem SA_get (cs : List AV) (U R : List (List AObj)) : (SA cs U R).enter.get (.g (U.length + R.length) 0) = some (.cells cs) := by
  simp -implicitDefEqProofs only [St.get, St.depth, St.enter, List.length_cons]
  rw [if_neg (by omega), if_pos (by omega)]
  have : U.length + 1 + R.length - 1 - (U.length + R.length) = 0 := by omega
  rw [this]
  rfl
theorem SA_set (cs cs' : List AV) (U R : List (List AObj)) : (SA cs U R).enter.set (.g (U.length + R.length) 0) (.cells cs') = some (SA cs' U R).enter := by
  simp -implicitDefEqProofs only [St.set, St.depth, St.enter, List.length_cons]
  rw [if_neg (by omega), if_pos ⟨by omega, by omega⟩]
  have : U.length + 1 + R.length - 1 - (U.length + R.length) = 0 := by omega
  rw [this]
  rfl
section
variable (G : Nat → AV) (X : Nat → List AV → St → Res)
theorem z_stA {k : K1} {cs : List AV} {U R : List (List AObj)} {o : Nat} {n : Int} (ho : o < cs.length) : (PP T1 G X).store (SA cs U R).enter k 1 (.ref (.g (U.length + R.length) 0) o) (.int .u8 n) = k .dead (SA (cs.set o (.int .u8 n)) U R).enter := by
  rw [zz_store]
  simp -implicitDefEqProofs only [storeOp, AV.isVal, AV.cells, List.length_cons, List.length_nil, Nat.zero_add, Nat.beq_refl, Bool.and_self, cond_true]
  unfold storeV
  simp -implicitDefEqProofs only [SA_get]
  have ht : (SA cs U R).enter.takes (.g (U.length + R.length) 0) [.int .u8 n] = true := by simp [St.takes, AV.reflessL, AV.refless]
  simp -implicitDefEqProofs only [List.length_cons, List.length_nil, Nat.zero_add, show Nat.ble (o + 1) cs.length = true from Nat.ble_eq_true_of_le ho, ht, List.all_cons, isCell_int, List.all_nil, Bool.and_self, cond_true]
  show (match (SA cs U R).enter.set (.g (U.length + R.length) 0) (.cells (splice cs o [.int .u8 n])) with | some s => k .dead s | none => .fail) = _
  rw [SA_set]
  rfl
theorem z_ixA {k : K1} {S : St} {D n : Nat} (i : Nat) (h : i < n) : (PP T1 G X).idx S k 1 (.msl (.g D 0) 0 n 24 1) (.int .i64 (i : Int)) = k (.ref (.g D 0) i) S := by
  have := z_idx_msl (T := T1) (G := G) (X := X) (S := S) (k := k) (.g D 0) 0 n 24 1 .i64 i h
  simpa using this
theorem z_smI {s : St} {k : K1} (i : Int) (b : Nat) (h : ∃ j : Nat, i = (j : Int) ∧ smTbl[j]? = some b) : (PP T1 G X).idxStr s k (.str smTbl) (.int .u32 i) = k (.int .u8 b) s := by
  obtain ⟨j, rfl, hj⟩ := h
  exact z_idxS G X smTbl .u32 j b hj
theorem finA (cs : List AV) (U R : List (List AObj)) : (PP T1 G X).fin false [] (SA cs U R).enter = .ok (.tup []) (SA cs U R) := rfl
def B (n : Nat) : AV := .int .u8 (n : Int)
theorem u32_of {x : Int} (h0 : 0 ≤ x) (h1 : x ≤ 4294967295) : IntKind.wrap .u32 x = x := IntWalk.u32_in x ⟨h0, h1⟩
def arr4 (u : Nat) : List AV := [B (48 + u / 100 / 10), B (48 + u / 100 % 10), B (48 + u % 100 / 10), B (48 + u % 100 % 10)] ++ List.replicate 20 (B 0)
def arr3 (u : Nat) : List AV := [B (48 + u / 100), B (48 + u % 100 / 10), B (48 + u % 100 % 10)] ++ List.replicate 21 (B 0)
theorem f165_4 (u : Nat) (h1 : 1000 ≤ u) (h2 : u < 10000) (U R : List (List AObj)) : callω T1 G X 165 [.msl (.g (U.length + R.length) 0) 0 4 24 1, .int .u64 (u : Int)] (SA (List.replicate 24 (B 0)) U R) = .ok (.tup []) (SA (arr4 u) U R) := by
  rw [f165_call, f165_eq]
  have e1 : IntKind.wrap .u32 (u : Int) = (u : Int) := u32_of (by omega) (by omega)
  have e2 : (u : Int).tmod 10000 = (u : Int) := by rw [Int.tmod_eq_emod_of_nonneg (by omega)]; omega
  have e3 : IntKind.wrap .u32 ((u : Int).tdiv 10000) = 0 := by rw [Int.tdiv_eq_ediv_of_nonneg (by omega), u32_of (by omega) (by omega)]; omega
  have e4 : IntKind.wrap .u32 ((u : Int).tdiv 100) = ((u / 100 : Nat) : Int) := by rw [Int.tdiv_eq_ediv_of_nonneg (by omega), u32_of (by omega) (by omega)]; omega
  have e5 : IntKind.wrap .u32 (((u / 100 : Nat) : Int) * 2) = ((u / 100 * 2 : Nat) : Int) := by rw [u32_of (by omega) (by omega)]; omega
  have e6 : (u : Int).tmod 100 = ((u % 100 : Nat) : Int) := by rw [Int.tmod_eq_emod_of_nonneg (by omega)]; omega
  have e7 : IntKind.wrap .u32 (((u % 100 : Nat) : Int) * 2) = ((u % 100 * 2 : Nat) : Int) := by rw [u32_of (by omega) (by omega)]; omega
  have e8 : IntKind.wrap .u32 (((u % 100 * 2 : Nat) : Int) + 1) = ((u % 100 * 2 + 1 : Nat) : Int) := by rw [u32_of (by omega) (by omega)]; omega
  have e9 : IntKind.wrap .u32 (((u / 100 * 2 : Nat) : Int) + 1) = ((u / 100 * 2 + 1 : Nat) : Int) := by rw [u32_of (by omega) (by omega)]; omega
  have w1 : IntKind.wrap .i64 (4 - 1) = ((3 : Nat) : Int) := by decide
  have w2 : IntKind.wrap .i64 (4 - 2) = ((2 : Nat) : Int) := by decide
  have w3 : IntKind.wrap .i64 (4 - 3) = ((1 : Nat) : Int) := by decide
  have w4 : IntKind.wrap .i64 (4 - 4) = ((0 : Nat) : Int) := by decide
  have z1 : (10000 : Int) ≠ 0 := by omega
  have z2 : (100 : Int) ≠ 0 := by omega
  have l4 : ((4 : Nat) : Int) = 4 := rfl
  have c8 : ¬ (8 : Int) ≤ 4 := by omega
  have c4 : (4 : Int) ≤ 4 := by omega
  have c2 : ¬ (2 : Int) ≤ ((0 : Nat) : Int) := by omega
  have c0 : ¬ (0 : Int) < ((0 : Nat) : Int) := by omega
  have s0 := fun (s : St) (k : K1) => z_smI G X (s := s) (k := k) ((u % 100 * 2 : Nat) : Int) _ ⟨_, rfl, sm_get0 (u % 100) (by omega)⟩
  have s1 := fun (s : St) (k : K1) => z_smI G X (s := s) (k := k) ((u % 100 * 2 + 1 : Nat) : Int) _ ⟨_, rfl, sm_get1 (u % 100) (by omega)⟩
  have s2 := fun (s : St) (k : K1) => z_smI G X (s := s) (k := k) ((u / 100 * 2 : Nat) : Int) _ ⟨_, rfl, sm_get0 (u / 100) (by omega)⟩
  have s3 := fun (s : St) (k : K1) => z_smI G X (s := s) (k := k) ((u / 100 * 2 + 1 : Nat) : Int) _ ⟨_, rfl, sm_get1 (u / 100) (by omega)⟩
  unfold smTbl at s0 s1 s2 s3
  simp -implicitDefEqProofs only [↓z_ret, ↓z_val, ↓z_pick, ↓z_cond, ↓z_boxRo_agg, ↓z_boxRo_int, ↓z_boxRo_bool, ↓z_boxRo_str, ↓z_boxRo_sl, ↓z_boxRo_fn, ↓z_boxRo_vptr, ↓z_boxRo_ref, ↓z_len_sl, ↓z_len_msl, ↓z_len_str, ↓z_load1, ↓z_fa, ↓z_fa_ref, ↓z_callF, ↓z_andK, ↓z_orK, ↓z_and1, ↓z_and2, ↓z_and3, ↓z_and4, ↓z_and5, ↓z_and6, ↓z_and7, ↓z_and8, ↓z_and9, ↓z_and10, ↓z_and11, ↓z_and12, ↓z_or1, ↓z_or2, ↓z_or3, ↓z_or4, ↓z_or5, ↓z_or6, ↓z_or7, ↓z_or8, ↓z_or9, ↓z_or10, ↓z_or11, ↓z_or12, ↓z_add, ↓z_sub, ↓z_mul, ↓z_eql, ↓z_neq, ↓z_lss, ↓z_leq, ↓z_gtr, ↓z_geq, ↓z_not, ↓z_neg, ↓z_fin_int, ↓z_fin_bool, ↓z_fin_str, ↓z_ent_int, ↓z_ent_bool, ↓z_ent_str, ↓z_stn, ↓z_ldnn, ↓z_ldn0, ↓z_ldn1, ↓z_ldn2, ↓z_ldn3, ↓z_ldn4, ↓z_ldn5, ↓z_ldn6, ↓z_ldn7, ↓z_ldn8, List.drop_zero, List.drop_succ_cons, List.cons_append, List.nil_append, decide_eq_true_eq, decide_eq_false_iff_not, ite_not, ↓reduceIte, pub_agg, pub_int, pub_bool, pub_str, pub_fn, pub_vptr, pub_nilp, Nat.zero_add, List.length_cons, List.length_nil, Nat.reduceAdd, List.all_cons, List.all_nil, isCell_int, isCell_bool, isCell_str, isCell_sl, Bool.and_self, ↓z_loadn, Nat.reduceLeDiff, Nat.le_refl, List.take_succ_cons, List.take_zero, l4, f165_l1_eq _ (PP_ok _ _ _), eq_false c8, decide_false, Bool.false_eq_true, f165_j3_eq _ (PP_ok _ _ _), ↓z_ci, e1, eq_true c4, decide_true, ↓z_rem' G X _ _ _ z1, ↓z_rem' G X _ _ _ z2, ↓z_quo' G X _ _ _ z1, ↓z_quo' G X _ _ _ z2, e2, e3, e4, e5, e6, e7, e8, e9, w1, w2, w3, w4, ↓s0, ↓s1, ↓s2, ↓s3,
    ↓z_ixA G X 3 (show 3 < 4 by omega), ↓z_ixA G X 2 (show 2 < 4 by omega), ↓z_ixA G X 1 (show 1 < 4 by omega), ↓z_ixA G X 0 (show 0 < 4 by omega)]
  rw [z_stA G X (by simp), z_stA G X (by simp), z_stA G X (by simp), z_stA G X (by simp), f165_j4_eq _ (PP_ok _ _ _)]
  simp -implicitDefEqProofs only [↓z_ret, ↓z_val, ↓z_pick, ↓z_cond, ↓z_boxRo_agg, ↓z_boxRo_int, ↓z_boxRo_bool, ↓z_boxRo_str, ↓z_boxRo_sl, ↓z_boxRo_fn, ↓z_boxRo_vptr, ↓z_boxRo_ref, ↓z_len_sl, ↓z_len_msl, ↓z_len_str, ↓z_load1, ↓z_fa, ↓z_fa_ref, ↓z_callF, ↓z_andK, ↓z_orK, ↓z_and1, ↓z_and2, ↓z_and3, ↓z_and4, ↓z_and5, ↓z_and6, ↓z_and7, ↓z_and8, ↓z_and9, ↓z_and10, ↓z_and11, ↓z_and12, ↓z_or1, ↓z_or2, ↓z_or3, ↓z_or4, ↓z_or5, ↓z_or6, ↓z_or7, ↓z_or8, ↓z_or9, ↓z_or10, ↓z_or11, ↓z_or12, ↓z_add, ↓z_sub, ↓z_mul, ↓z_eql, ↓z_neq, ↓z_lss, ↓z_leq, ↓z_gtr, ↓z_geq, ↓z_not, ↓z_neg, ↓z_fin_int, ↓z_fin_bool, ↓z_fin_str, ↓z_ent_int, ↓z_ent_bool, ↓z_ent_str, ↓z_stn, ↓z_ldnn, ↓z_ldn0, ↓z_ldn1, ↓z_ldn2, ↓z_ldn3, ↓z_ldn4, ↓z_ldn5, ↓z_ldn6, ↓z_ldn7, ↓z_ldn8, List.drop_zero, List.drop_succ_cons, List.cons_append, List.nil_append, decide_eq_true_eq, decide_eq_false_iff_not, ite_not, ↓reduceIte, pub_agg, pub_int, pub_bool, pub_str, pub_fn, pub_vptr, pub_nilp, Nat.zero_add, List.length_cons, List.length_nil, Nat.reduceAdd, List.all_cons, List.all_nil, isCell_int, isCell_bool, isCell_str, isCell_sl, Bool.and_self, ↓z_loadn, Nat.reduceLeDiff, Nat.le_refl, List.take_succ_cons, List.take_zero, eq_false c2, decide_false, Bool.false_eq_true, f165_j5_eq _ (PP_ok _ _ _), eq_false c0, finA]
  rfl
theorem f165_3 (u : Nat) (h1 : 100 ≤ u) (h2 : u < 1000) (U R : List (List AObj)) : callω T1 G X 165 [.msl (.g (U.length + R.length) 0) 0 3 24 1, .int .u64 (u : Int)] (SA (List.replicate 24 (B 0)) U R) = .ok (.tup []) (SA (arr3 u) U R) := by
  rw [f165_call, f165_eq]
  have e1 : IntKind.wrap .u32 (u : Int) = (u : Int) := u32_of (by omega) (by omega)
  have e4 : IntKind.wrap .u32 ((u : Int).tdiv 100) = ((u / 100 : Nat) : Int) := by rw [Int.tdiv_eq_ediv_of_nonneg (by omega), u32_of (by omega) (by omega)]; omega
  have e6 : (u : Int).tmod 100 = ((u % 100 : Nat) : Int) := by rw [Int.tmod_eq_emod_of_nonneg (by omega)]; omega
  have e7 : IntKind.wrap .u32 (((u % 100 : Nat) : Int) * 2) = ((u % 100 * 2 : Nat) : Int) := by rw [u32_of (by omega) (by omega)]; omega
  have e8 : IntKind.wrap .u32 (((u % 100 * 2 : Nat) : Int) + 1) = ((u % 100 * 2 + 1 : Nat) : Int) := by rw [u32_of (by omega) (by omega)]; omega
  have e10 : IntKind.wrap .u32 (48 + ((u / 100 : Nat) : Int)) = ((48 + u / 100 : Nat) : Int) := by rw [u32_of (by omega) (by omega)]; omega
  have e11 : IntKind.wrap .u8 ((48 + u / 100 : Nat) : Int) = ((48 + u / 100 : Nat) : Int) := u8_in _ (by omega)
  have w1 : IntKind.wrap .i64 (3 - 1) = ((2 : Nat) : Int) := by decide
  have w2 : IntKind.wrap .i64 (3 - 2) = ((1 : Nat) : Int) := by decide
  have z2 : (100 : Int) ≠ 0 := by omega
  have l4 : ((3 : Nat) : Int) = 3 := rfl
  have c8 : ¬ (8 : Int) ≤ 3 := by omega
  have c4 : ¬ (4 : Int) ≤ 3 := by omega
  have c2 : (2 : Int) ≤ 3 := by omega
  have c0 : (0 : Int) < ((1 : Nat) : Int) := by omega
  have i0 : ∀ (k : K1) (S : St), (PP T1 G X).idx S k 1 (.msl (.g (U.length + R.length) 0) 0 3 24 1) (.int .i64 0) = k (.ref (.g (U.length + R.length) 0) 0) S := fun k S => z_ixA G X 0 (by omega)
  have s0 := fun (s : St) (k : K1) => z_smI G X (s := s) (k := k) ((u % 100 * 2 : Nat) : Int) _ ⟨_, rfl, sm_get0 (u % 100) (by omega)⟩
  have s1 := fun (s : St) (k : K1) => z_smI G X (s := s) (k := k) ((u % 100 * 2 + 1 : Nat) : Int) _ ⟨_, rfl, sm_get1 (u % 100) (by omega)⟩
  unfold smTbl at s0 s1
  simp -implicitDefEqProofs only [↓z_ret, ↓z_val, ↓z_pick, ↓z_cond, ↓z_boxRo_agg, ↓z_boxRo_int, ↓z_boxRo_bool, ↓z_boxRo_str, ↓z_boxRo_sl, ↓z_boxRo_fn, ↓z_boxRo_vptr, ↓z_boxRo_ref, ↓z_len_sl, ↓z_len_msl, ↓z_len_str, ↓z_load1, ↓z_fa, ↓z_fa_ref, ↓z_callF, ↓z_andK, ↓z_orK, ↓z_and1, ↓z_and2, ↓z_and3, ↓z_and4, ↓z_and5, ↓z_and6, ↓z_and7, ↓z_and8, ↓z_and9, ↓z_and10, ↓z_and11, ↓z_and12, ↓z_or1, ↓z_or2, ↓z_or3, ↓z_or4, ↓z_or5, ↓z_or6, ↓z_or7, ↓z_or8, ↓z_or9, ↓z_or10, ↓z_or11, ↓z_or12, ↓z_add, ↓z_sub, ↓z_mul, ↓z_eql, ↓z_neq, ↓z_lss, ↓z_leq, ↓z_gtr, ↓z_geq, ↓z_not, ↓z_neg, ↓z_fin_int, ↓z_fin_bool, ↓z_fin_str, ↓z_ent_int, ↓z_ent_bool, ↓z_ent_str, ↓z_stn, ↓z_ldnn, ↓z_ldn0, ↓z_ldn1, ↓z_ldn2, ↓z_ldn3, ↓z_ldn4, ↓z_ldn5, ↓z_ldn6, ↓z_ldn7, ↓z_ldn8, List.drop_zero, List.drop_succ_cons, List.cons_append, List.nil_append, decide_eq_true_eq, decide_eq_false_iff_not, ite_not, ↓reduceIte, pub_agg, pub_int, pub_bool, pub_str, pub_fn, pub_vptr, pub_nilp, Nat.zero_add, List.length_cons, List.length_nil, Nat.reduceAdd, List.all_cons, List.all_nil, isCell_int, isCell_bool, isCell_str, isCell_sl, Bool.and_self, ↓z_loadn, Nat.reduceLeDiff, Nat.le_refl, List.take_succ_cons, List.take_zero, l4, f165_l1_eq _ (PP_ok _ _ _), eq_false c8, decide_false, Bool.false_eq_true, f165_j3_eq _ (PP_ok _ _ _), ↓z_ci, e1, eq_false c4, f165_j4_eq _ (PP_ok _ _ _), eq_true c2, decide_true, ↓z_rem' G X _ _ _ z2, ↓z_quo' G X _ _ _ z2, e4, e6, e7, e8, w1, w2, ↓s0, ↓s1,
    ↓z_ixA G X 2 (show 2 < 3 by omega), ↓z_ixA G X 1 (show 1 < 3 by omega)]
  rw [z_stA G X (by simp), z_stA G X (by simp), f165_j5_eq _ (PP_ok _ _ _)]
  simp -implicitDefEqProofs only [↓z_ret, ↓z_val, ↓z_pick, ↓z_cond, ↓z_boxRo_agg, ↓z_boxRo_int, ↓z_boxRo_bool, ↓z_boxRo_str, ↓z_boxRo_sl, ↓z_boxRo_fn, ↓z_boxRo_vptr, ↓z_boxRo_ref, ↓z_len_sl, ↓z_len_msl, ↓z_len_str, ↓z_load1, ↓z_fa, ↓z_fa_ref, ↓z_callF, ↓z_andK, ↓z_orK, ↓z_and1, ↓z_and2, ↓z_and3, ↓z_and4, ↓z_and5, ↓z_and6, ↓z_and7, ↓z_and8, ↓z_and9, ↓z_and10, ↓z_and11, ↓z_and12, ↓z_or1, ↓z_or2, ↓z_or3, ↓z_or4, ↓z_or5, ↓z_or6, ↓z_or7, ↓z_or8, ↓z_or9, ↓z_or10, ↓z_or11, ↓z_or12, ↓z_add, ↓z_sub, ↓z_mul, ↓z_eql, ↓z_neq, ↓z_lss, ↓z_leq, ↓z_gtr, ↓z_geq, ↓z_not, ↓z_neg, ↓z_fin_int, ↓z_fin_bool, ↓z_fin_str, ↓z_ent_int, ↓z_ent_bool, ↓z_ent_str, ↓z_stn, ↓z_ldnn, ↓z_ldn0, ↓z_ldn1, ↓z_ldn2, ↓z_ldn3, ↓z_ldn4, ↓z_ldn5, ↓z_ldn6, ↓z_ldn7, ↓z_ldn8, List.drop_zero, List.drop_succ_cons, List.cons_append, List.nil_append, decide_eq_true_eq, decide_eq_false_iff_not, ite_not, ↓reduceIte, pub_agg, pub_int, pub_bool, pub_str, pub_fn, pub_vptr, pub_nilp, Nat.zero_add, List.length_cons, List.length_nil, Nat.reduceAdd, List.all_cons, List.all_nil, isCell_int, isCell_bool, isCell_str, isCell_sl, Bool.and_self, ↓z_loadn, Nat.reduceLeDiff, Nat.le_refl, List.take_succ_cons, List.take_zero, eq_true c0, decide_true, e10, ↓z_ci, e11, ↓i0]
  rw [z_stA G X (by simp)]
  simp -implicitDefEqProofs only [finA]
  rfl
end
end Go.AbX
end
section
namespace Go.AbX
open Go.Ab
set_option linter.unusedSimpArgs false
set_option linter.unusedVariables false
set_option maxRecDepth 100000
/-- A frame's state over another caller's state. -/
def reup (S s : St) : St := { own := S.own, up := s.own :: s.up, ro := s.ro }
theorem reup_child (S s : St) : Child s (reup S s) := ⟨rfl, rfl⟩
theorem reup_self {s S : St} (h : Child s S) : reup S s = S := by
  obtain ⟨h1, h2⟩ := h
  cases S
  simp -implicitDefEqProofs only at h1 h2
  simp -implicitDefEqProofs only [reup, h1, h2]
theorem child_dep {s S : St} (h : Child s S) : S.depth = s.depth + 1 := by simp [St.depth, h.up, h.ro]; omega
theorem child_get {s S : St} (h : Child s S) {d j : Nat} (hd : d ≤ s.depth) : S.get (.g d j) = s.get (.g d j) := by
  have e := child_dep h
  simp -implicitDefEqProofs only [St.get, e]
  rw [if_neg (by omega), if_pos (by omega), h.up, h.ro]
  by_cases hq : d = s.depth
  · subst hq
    have : s.depth + 1 - 1 - s.depth = 0 := by omega
    rw [this, if_pos rfl]
    rfl
  · rw [if_neg hq, if_pos (by omega)]
    have : s.depth + 1 - 1 - d = (s.depth - 1 - d) + 1 := by omega
    rw [this]
    rfl
theorem child_set {s S s' : St} (h : Child s S) {d j : Nat} {o : AObj} (hd : d ≤ s.depth) (hs : s.set (.g d j) o = some s') : S.set (.g d j) o = some (reup S s') := by
  have e := child_dep h
  have hlen : s.depth = s.up.length + s.ro.length := rfl
  simp -implicitDefEqProofs only [St.set] at hs ⊢
  rw [if_neg (by omega)]
  by_cases hq : d = s.depth
  · subst hq
    rw [if_pos rfl] at hs
    obtain rfl := Option.some.inj hs
    rw [if_pos ⟨by omega, by rw [h.ro]; omega⟩]
    have : S.depth - 1 - s.depth = 0 := by omega
    rw [this, h.up, h.ro]
    simp [reup]
  · rw [if_neg hq] at hs
    split at hs
    · rename_i hc
      obtain rfl := Option.some.inj hs
      rw [if_pos ⟨by omega, by rw [h.ro]; exact hc.2⟩]
      have : S.depth - 1 - d = (s.depth - 1 - d) + 1 := by omega
      rw [this, h.up, h.ro]
      simp [reup]
    · cases hs
/-- The room behind a list that grows, in some frame: what is known of it, and how the state goes on. -/
structure TK (s : St) (d j n : Nat) (f : Nat → St) : Prop where
  le : d ≤ s.depth
  get : s.get (.g d j) = some (.tok n)
  set : ∀ m, s.set (.g d j) (.tok m) = some (f m)
  get2 : ∀ m, (f m).get (.g d j) = some (.tok m)
  set2 : ∀ m m', (f m).set (.g d j) (.tok m') = some (f m')
  dep : ∀ m, (f m).depth = s.depth
theorem TK.next {s : St} {d j n : Nat} {f : Nat → St} (h : TK s d j n f) (m : Nat) : TK (f m) d j m f := ⟨by rw [h.dep]; exact h.le, h.get2 m, h.set2 m, h.get2, h.set2, fun m' => by rw [h.dep, h.dep]⟩
theorem TK.child {s S : St} {d j n : Nat} {f : Nat → St} (h : TK s d j n f) (hS : Child s S) : TK S d j n (fun m => reup S (f m)) where
  le := by rw [child_dep hS]; have := h.le; omega
  get := by rw [child_get hS h.le, h.get]
  set := fun m => child_set hS h.le (h.set m)
  get2 := fun m => by rw [child_get (reup_child S (f m)) (by rw [h.dep]; exact h.le), h.get2]
  set2 := fun m m' => child_set (reup_child S (f m)) (by rw [h.dep]; exact h.le) (h.set2 m m')
  dep := fun m => by rw [child_dep (reup_child S (f m)), child_dep hS, h.dep]
section
variable (G : Nat → AV) (X : Nat → List AV → St → Res)
theorem z_appT {S : St} {k : K1} {d j : Nat} {f : Nat → St} {es new : List AV} {y : AV} (h : TK S d j es.length f) (hy : elemsOf S y = some (1, new)) (hn : new ≠ []) (hb : es.length + new.length ≤ 1099511627776) (hc : (new.flatMap AV.cells).all AV.isCell = true) (b : Ab.Loc) :
    (PP T1 G X).append S k 1 1 (some b) (.sl 1 es (.buf (.g d j))) y = k (.sl 1 (es ++ new) (.buf (.g d j))) (f (es.length + new.length)) := by
  rw [zz_append]
  unfold appendOp
  simp -implicitDefEqProofs only
  unfold appendV
  simp -implicitDefEqProofs only [hy, Nat.beq_refl, Bool.true_and, Nat.mul_one]
  rw [show Nat.ble (es.length + new.length) 1099511627776 = true from Nat.ble_eq_true_of_le hb]
  simp -implicitDefEqProofs only [cond_true]
  cases new with
  | nil => exact absurd rfl hn
  | cons c cs =>
    simp -implicitDefEqProofs only [h.get, Nat.beq_refl, hc, Bool.and_self, cond_true, h.set]
    rfl
theorem bytes_ok (bs : List Nat) : ((bs.map B).flatMap AV.cells).all AV.isCell = true := by
  induction bs with
  | nil => rfl
  | cons b bs ih =>
    simp -implicitDefEqProofs only [List.map_cons, List.flatMap_cons, List.all_append, ih, Bool.and_true]
    rfl
theorem elems_str (S : St) (bs : List Nat) : elemsOf S (.str bs) = some (1, bs.map B) := rfl
theorem z_subS {s : St} {k : K1} (bs : List Nat) (k1 k2 : IntKind) (l h : Nat) (h1 : l ≤ h) (h2 : h ≤ bs.length) : (PP T1 G X).sub (.str bs) (some (.int k1 (l : Int))) (some (.int k2 (h : Int))) s k = k (.str ((bs.drop l).take (h - l))) s := by
  show hSub (.str bs) (some (.int k1 (l : Int))) (some (.int k2 (h : Int))) s k = _
  unfold hSub hBd
  simp -implicitDefEqProofs only [asNat_nat, Nat.ble_eq_true_of_le h1, Nat.ble_eq_true_of_le h2, Bool.and_self, cond_true]
theorem d36_get (u : Nat) (h : u < 10) : (d36Tbl.drop u).take (u + 1 - u) = dg u := by
  rw [dg_lt h]
  have : ∀ u : Fin 10, (d36Tbl.drop u.val).take (u.val + 1 - u.val) = [48 + u.val] := by decide
  exact this ⟨u, h⟩
theorem sm_sub (u : Nat) (h1 : 10 ≤ u) (h : u < 100) : (smTbl.drop (u * 2)).take (u * 2 + 2 - u * 2) = dg u := by
  rw [dg_ge (by omega), dg_lt (by omega)]
  have : ∀ u : Fin 100, (smTbl.drop (u.val * 2)).take (u.val * 2 + 2 - u.val * 2) = [48 + u.val / 10] ++ [48 + u.val % 10] := by decide
  exact this ⟨u, h⟩
theorem f163_ok (u : Nat) (h : u < 100) (s : St) : callω T1 G X 163 [.int .i64 (u : Int)] s = .ok (.str (dg u)) s := by
  rw [f163_call, f163_eq]
  have w1 : IntKind.wrap .i64 ((u : Int) + 1) = ((u + 1 : Nat) : Int) := wrap_succ u (by omega)
  have w2 : IntKind.wrap .i64 ((u : Int) * 2) = ((u * 2 : Nat) : Int) := by rw [wrap_in _ (by omega) (by omega)]; omega
  have w3 : IntKind.wrap .i64 (((u * 2 : Nat) : Int) + 2) = ((u * 2 + 2 : Nat) : Int) := by rw [wrap_in _ (by omega) (by omega)]; omega
  by_cases h1 : u < 10
  · have c : (u : Int) < 10 := by omega
    have hs := fun (s : St) (k : K1) => z_subS G X (s := s) (k := k) d36Tbl .i64 .i64 u (u + 1) (by omega) (by show u + 1 ≤ 36; omega)
    rw [d36_get u h1] at hs
    unfold d36Tbl at hs
    simp -implicitDefEqProofs only [↓z_ret, ↓z_val, ↓z_pick, ↓z_cond, ↓z_boxRo_agg, ↓z_boxRo_int, ↓z_boxRo_bool, ↓z_boxRo_str, ↓z_boxRo_sl, ↓z_boxRo_fn, ↓z_boxRo_vptr, ↓z_boxRo_ref, ↓z_len_sl, ↓z_len_msl, ↓z_len_str, ↓z_load1, ↓z_fa, ↓z_fa_ref, ↓z_callF, ↓z_andK, ↓z_orK, ↓z_and1, ↓z_and2, ↓z_and3, ↓z_and4, ↓z_and5, ↓z_and6, ↓z_and7, ↓z_and8, ↓z_and9, ↓z_and10, ↓z_and11, ↓z_and12, ↓z_or1, ↓z_or2, ↓z_or3, ↓z_or4, ↓z_or5, ↓z_or6, ↓z_or7, ↓z_or8, ↓z_or9, ↓z_or10, ↓z_or11, ↓z_or12, ↓z_add, ↓z_sub, ↓z_mul, ↓z_eql, ↓z_neq, ↓z_lss, ↓z_leq, ↓z_gtr, ↓z_geq, ↓z_not, ↓z_neg, ↓z_fin_int, ↓z_fin_bool, ↓z_fin_str, ↓z_ent_int, ↓z_ent_bool, ↓z_ent_str, ↓z_stn, ↓z_ldnn, ↓z_ldn0, ↓z_ldn1, ↓z_ldn2, ↓z_ldn3, ↓z_ldn4, ↓z_ldn5, ↓z_ldn6, ↓z_ldn7, ↓z_ldn8, List.drop_zero, List.drop_succ_cons, List.cons_append, List.nil_append, decide_eq_true_eq, decide_eq_false_iff_not, ite_not, ↓reduceIte, pub_agg, pub_int, pub_bool, pub_str, pub_fn, pub_vptr, pub_nilp, Nat.zero_add, List.length_cons, List.length_nil, Nat.reduceAdd, List.all_cons, List.all_nil, isCell_int, isCell_bool, isCell_str, isCell_sl, Bool.and_self, ↓z_loadn, Nat.reduceLeDiff, Nat.le_refl, List.take_succ_cons, List.take_zero, eq_true c, decide_true, w1, ↓hs]
  · have c : ¬ (u : Int) < 10 := by omega
    have hs := fun (s : St) (k : K1) => z_subS G X (s := s) (k := k) smTbl .i64 .i64 (u * 2) (u * 2 + 2) (by omega) (by show u * 2 + 2 ≤ 200; omega)
    rw [sm_sub u (by omega) h] at hs
    unfold smTbl at hs
    simp -implicitDefEqProofs only [↓z_ret, ↓z_val, ↓z_pick, ↓z_cond, ↓z_boxRo_agg, ↓z_boxRo_int, ↓z_boxRo_bool, ↓z_boxRo_str, ↓z_boxRo_sl, ↓z_boxRo_fn, ↓z_boxRo_vptr, ↓z_boxRo_ref, ↓z_len_sl, ↓z_len_msl, ↓z_len_str, ↓z_load1, ↓z_fa, ↓z_fa_ref, ↓z_callF, ↓z_andK, ↓z_orK, ↓z_and1, ↓z_and2, ↓z_and3, ↓z_and4, ↓z_and5, ↓z_and6, ↓z_and7, ↓z_and8, ↓z_and9, ↓z_and10, ↓z_and11, ↓z_and12, ↓z_or1, ↓z_or2, ↓z_or3, ↓z_or4, ↓z_or5, ↓z_or6, ↓z_or7, ↓z_or8, ↓z_or9, ↓z_or10, ↓z_or11, ↓z_or12, ↓z_add, ↓z_sub, ↓z_mul, ↓z_eql, ↓z_neq, ↓z_lss, ↓z_leq, ↓z_gtr, ↓z_geq, ↓z_not, ↓z_neg, ↓z_fin_int, ↓z_fin_bool, ↓z_fin_str, ↓z_ent_int, ↓z_ent_bool, ↓z_ent_str, ↓z_stn, ↓z_ldnn, ↓z_ldn0, ↓z_ldn1, ↓z_ldn2, ↓z_ldn3, ↓z_ldn4, ↓z_ldn5, ↓z_ldn6, ↓z_ldn7, ↓z_ldn8, List.drop_zero, List.drop_succ_cons, List.cons_append, List.nil_append, decide_eq_true_eq, decide_eq_false_iff_not, ite_not, ↓reduceIte, pub_agg, pub_int, pub_bool, pub_str, pub_fn, pub_vptr, pub_nilp, Nat.zero_add, List.length_cons, List.length_nil, Nat.reduceAdd, List.all_cons, List.all_nil, isCell_int, isCell_bool, isCell_str, isCell_sl, Bool.and_self, ↓z_loadn, Nat.reduceLeDiff, Nat.le_refl, List.take_succ_cons, List.take_zero, eq_false c, decide_false, Bool.false_eq_true, f163_j1_eq _ (PP_ok _ _ _), w2, w3, ↓hs]
end
end Go.AbX
end
section
namespace Go.AbX
open Go.Ab
set_option linter.unusedSimpArgs false
set_option linter.unusedVariables false
set_option maxRecDepth 100000
theorem dg3 (u : Nat) (h1 : 100 ≤ u) (h2 : u < 1000) : dg u = [48 + u / 100, 48 + u % 100 / 10, 48 + u % 100 % 10] := by
  rw [dg_ge (by omega), dg_ge (by omega), dg_lt (by omega)]
  simp -implicitDefEqProofs only [List.cons_append, List.nil_append, List.cons.injEq, and_true]
  omega
theorem dg4 (u : Nat) (h1 : 1000 ≤ u) (h2 : u < 10000) : dg u = [48 + u / 100 / 10, 48 + u / 100 % 10, 48 + u % 100 / 10, 48 + u % 100 % 10] := by
  rw [dg_ge (by omega), dg_ge (by omega), dg_ge (by omega), dg_lt (by omega)]
  simp -implicitDefEqProofs only [List.cons_append, List.nil_append, List.cons.injEq, and_true]
  omega
section
variable (G : Nat → AV) (X : Nat → List AV → St → Res)
theorem z_slA (s : St) (k : K1) (j n : Nat) (h : n ≤ 24) : (PP T1 G X).sliceA 1 24 (.ref (.l j) 0) none (some (.int .i64 (n : Int))) none s k = k (.msl (.l j) 0 n 24 1) s := by
  show hSliceA 1 24 (.ref (.l j) 0) none (some (.int .i64 (n : Int))) none s k = _
  unfold hSliceA hBd
  simp -implicitDefEqProofs only [asNat_nat, Nat.ble_eq_true_of_le (Nat.zero_le n), Nat.ble_eq_true_of_le h, show Nat.ble 24 24 = true from rfl, Bool.and_self, cond_true]
  rfl
theorem elems_arr3 (u : Nat) (U R : List (List AObj)) : elemsOf (SA (arr3 u) U R) (.msl (.l 0) 0 3 24 1) = some (1, [48 + u / 100, 48 + u % 100 / 10, 48 + u % 100 % 10].map B) := rfl
theorem elems_arr4 (u : Nat) (U R : List (List AObj)) : elemsOf (SA (arr4 u) U R) (.msl (.l 0) 0 4 24 1) = some (1, [48 + u / 100 / 10, 48 + u / 100 % 10, 48 + u % 100 / 10, 48 + u % 100 % 10].map B) := rfl
theorem z_finT {s S : St} (h : Child s S) (es : List AV) (d j : Nat) (hd : d ≤ s.depth) : (PP T1 G X).fin false [some (.sl 1 es (.buf (.g d j)))] S = .ok (.sl 1 es (.buf (.g d j))) s := by
  refine z_finC1 h _ _ ?_
  show (if d < S.depth then some (AV.sl 1 es (.buf (.g d j))) else some (.sl 1 es .any)) = _
  rw [if_pos (by rw [child_dep h]; omega)]
theorem f143_ok (hG : G 0 = .vptr powCs) (u : Nat) (h2 : u < 10000) (s : St) (d j : Nat) (f : Nat → St) (es : List AV) (hT : TK s d j es.length f) (hb : es.length ≤ 1000000) :
    callω T1 G X 143 [.sl 1 es (.buf (.g d j)), .int .u64 (u : Int), .int .i64 10] s = .ok (.sl 1 (es ++ (dg u).map B) (.buf (.g d j))) (f (es.length + (dg u).length)) := by
  rw [f143_call, f143_eq]
  have t10 : (10 : Int) = 10 := rfl
  have hTe := hT.child (Child.enter s)
  by_cases h100 : u < 100
  · have c : (u : Int) < 100 := by omega
    have w : IntKind.wrap .i64 (u : Int) = (u : Int) := wrap_in _ (by omega) (by omega)
    have h163 := f163_ok G X u h100 s.enter
    have hl := dg_len u
    have hne : (dg u).map B ≠ [] := by
      by_cases q : u < 10
      · rw [dg_lt q]; simp
      · rw [dg_ge q]; simp
    have ha := fun (k : K1) => z_appT G X (k := k) hTe (elems_str s.enter (dg u)) hne (by simp; omega) (bytes_ok _) (.l 0)
    simp -implicitDefEqProofs only [↓z_ret, ↓z_val, ↓z_pick, ↓z_cond, ↓z_boxRo_agg, ↓z_boxRo_int, ↓z_boxRo_bool, ↓z_boxRo_str, ↓z_boxRo_sl, ↓z_boxRo_fn, ↓z_boxRo_vptr, ↓z_boxRo_ref, ↓z_len_sl, ↓z_len_msl, ↓z_len_str, ↓z_load1, ↓z_fa, ↓z_fa_ref, ↓z_callF, ↓z_andK, ↓z_orK, ↓z_and1, ↓z_and2, ↓z_and3, ↓z_and4, ↓z_and5, ↓z_and6, ↓z_and7, ↓z_and8, ↓z_and9, ↓z_and10, ↓z_and11, ↓z_and12, ↓z_or1, ↓z_or2, ↓z_or3, ↓z_or4, ↓z_or5, ↓z_or6, ↓z_or7, ↓z_or8, ↓z_or9, ↓z_or10, ↓z_or11, ↓z_or12, ↓z_add, ↓z_sub, ↓z_mul, ↓z_eql, ↓z_neq, ↓z_lss, ↓z_leq, ↓z_gtr, ↓z_geq, ↓z_not, ↓z_neg, ↓z_fin_int, ↓z_fin_bool, ↓z_fin_str, ↓z_ent_int, ↓z_ent_bool, ↓z_ent_str, ↓z_stn, ↓z_ldnn, ↓z_ldn0, ↓z_ldn1, ↓z_ldn2, ↓z_ldn3, ↓z_ldn4, ↓z_ldn5, ↓z_ldn6, ↓z_ldn7, ↓z_ldn8, List.drop_zero, List.drop_succ_cons, List.cons_append, List.nil_append, decide_eq_true_eq, decide_eq_false_iff_not, ite_not, ↓reduceIte, pub_agg, pub_int, pub_bool, pub_str, pub_fn, pub_vptr, pub_nilp, Nat.zero_add, List.length_cons, List.length_nil, Nat.reduceAdd, List.all_cons, List.all_nil, isCell_int, isCell_bool, isCell_str, isCell_sl, Bool.and_self, ↓z_loadn, Nat.reduceLeDiff, Nat.le_refl, List.take_succ_cons, List.take_zero, eq_true t10, decide_true, eq_true c, ↓z_ci, w, z_call0 h163, ↓ha]
    rw [z_finT G X (reup_child _ _) _ _ _ (by rw [hT.dep]; exact hT.le), List.length_map]
  · have c : ¬ (u : Int) < 100 := by omega
    have h164 := fun s => f164_ok G X hG u (by omega) h2 s
    have hS : Child s (SA (List.replicate 24 (B 0)) (s.own :: s.up) s.ro) := ⟨rfl, rfl⟩
    have hnew : s.enter.new (.cells (List.replicate 24 (B 0))) = SA (List.replicate 24 (B 0)) (s.own :: s.up) s.ro := rfl
    by_cases h1000 : u < 1000
    · have hS3 : Child s (SA (arr3 u) (s.own :: s.up) s.ro) := ⟨rfl, rfl⟩
      have hT3 := hT.child hS3
      have hn : nd u = 3 := by unfold nd; rw [if_pos h1000]
      have h165 := f165_3 G X u (by omega) h1000 (s.own :: s.up) s.ro
      have ha := fun (k : K1) => z_appT G X (k := k) hT3 (elems_arr3 u _ _) (by simp) (by simp; omega) (bytes_ok _) (.l 0)
      rw [← dg3 u (by omega) h1000] at ha
      have hsl := fun (s : St) (k : K1) => z_slA G X s k 0 3 (by omega)
      simp -implicitDefEqProofs only [hn] at h164
      simp -implicitDefEqProofs only [↓z_ret, ↓z_val, ↓z_pick, ↓z_cond, ↓z_boxRo_agg, ↓z_boxRo_int, ↓z_boxRo_bool, ↓z_boxRo_str, ↓z_boxRo_sl, ↓z_boxRo_fn, ↓z_boxRo_vptr, ↓z_boxRo_ref, ↓z_len_sl, ↓z_len_msl, ↓z_len_str, ↓z_load1, ↓z_fa, ↓z_fa_ref, ↓z_callF, ↓z_andK, ↓z_orK, ↓z_and1, ↓z_and2, ↓z_and3, ↓z_and4, ↓z_and5, ↓z_and6, ↓z_and7, ↓z_and8, ↓z_and9, ↓z_and10, ↓z_and11, ↓z_and12, ↓z_or1, ↓z_or2, ↓z_or3, ↓z_or4, ↓z_or5, ↓z_or6, ↓z_or7, ↓z_or8, ↓z_or9, ↓z_or10, ↓z_or11, ↓z_or12, ↓z_add, ↓z_sub, ↓z_mul, ↓z_eql, ↓z_neq, ↓z_lss, ↓z_leq, ↓z_gtr, ↓z_geq, ↓z_not, ↓z_neg, ↓z_fin_int, ↓z_fin_bool, ↓z_fin_str, ↓z_ent_int, ↓z_ent_bool, ↓z_ent_str, ↓z_stn, ↓z_ldnn, ↓z_ldn0, ↓z_ldn1, ↓z_ldn2, ↓z_ldn3, ↓z_ldn4, ↓z_ldn5, ↓z_ldn6, ↓z_ldn7, ↓z_ldn8, List.drop_zero, List.drop_succ_cons, List.cons_append, List.nil_append, decide_eq_true_eq, decide_eq_false_iff_not, ite_not, ↓reduceIte, pub_agg, pub_int, pub_bool, pub_str, pub_fn, pub_vptr, pub_nilp, Nat.zero_add, List.length_cons, List.length_nil, Nat.reduceAdd, List.all_cons, List.all_nil, isCell_int, isCell_bool, isCell_str, isCell_sl, Bool.and_self, ↓z_loadn, Nat.reduceLeDiff, Nat.le_refl, List.take_succ_cons, List.take_zero, eq_true t10, decide_true, eq_false c, decide_false, Bool.false_eq_true, f143_j1_eq _ (PP_ok _ _ _)]
      refine (z_call0 (h164 _)).trans ?_
      refine (hsl _ _).trans ?_
      refine (z_call h165 rfl).trans ?_
      refine (hsl _ _).trans ?_
      refine (ha _).trans ?_
      rw [z_finT G X (reup_child _ _) _ _ _ (by rw [hT.dep]; exact hT.le), List.length_map]
    · have hS3 : Child s (SA (arr4 u) (s.own :: s.up) s.ro) := ⟨rfl, rfl⟩
      have hT3 := hT.child hS3
      have hn : nd u = 4 := by unfold nd; rw [if_neg h1000]
      have h165 := f165_4 G X u (by omega) h2 (s.own :: s.up) s.ro
      have ha := fun (k : K1) => z_appT G X (k := k) hT3 (elems_arr4 u _ _) (by simp) (by simp; omega) (bytes_ok _) (.l 0)
      rw [← dg4 u (by omega) h2] at ha
      have hsl := fun (s : St) (k : K1) => z_slA G X s k 0 4 (by omega)
      simp -implicitDefEqProofs only [hn] at h164
      simp -implicitDefEqProofs only [↓z_ret, ↓z_val, ↓z_pick, ↓z_cond, ↓z_boxRo_agg, ↓z_boxRo_int, ↓z_boxRo_bool, ↓z_boxRo_str, ↓z_boxRo_sl, ↓z_boxRo_fn, ↓z_boxRo_vptr, ↓z_boxRo_ref, ↓z_len_sl, ↓z_len_msl, ↓z_len_str, ↓z_load1, ↓z_fa, ↓z_fa_ref, ↓z_callF, ↓z_andK, ↓z_orK, ↓z_and1, ↓z_and2, ↓z_and3, ↓z_and4, ↓z_and5, ↓z_and6, ↓z_and7, ↓z_and8, ↓z_and9, ↓z_and10, ↓z_and11, ↓z_and12, ↓z_or1, ↓z_or2, ↓z_or3, ↓z_or4, ↓z_or5, ↓z_or6, ↓z_or7, ↓z_or8, ↓z_or9, ↓z_or10, ↓z_or11, ↓z_or12, ↓z_add, ↓z_sub, ↓z_mul, ↓z_eql, ↓z_neq, ↓z_lss, ↓z_leq, ↓z_gtr, ↓z_geq, ↓z_not, ↓z_neg, ↓z_fin_int, ↓z_fin_bool, ↓z_fin_str, ↓z_ent_int, ↓z_ent_bool, ↓z_ent_str, ↓z_stn, ↓z_ldnn, ↓z_ldn0, ↓z_ldn1, ↓z_ldn2, ↓z_ldn3, ↓z_ldn4, ↓z_ldn5, ↓z_ldn6, ↓z_ldn7, ↓z_ldn8, List.drop_zero, List.drop_succ_cons, List.cons_append, List.nil_append, decide_eq_true_eq, decide_eq_false_iff_not, ite_not, ↓reduceIte, pub_agg, pub_int, pub_bool, pub_str, pub_fn, pub_vptr, pub_nilp, Nat.zero_add, List.length_cons, List.length_nil, Nat.reduceAdd, List.all_cons, List.all_nil, isCell_int, isCell_bool, isCell_str, isCell_sl, Bool.and_self, ↓z_loadn, Nat.reduceLeDiff, Nat.le_refl, List.take_succ_cons, List.take_zero, eq_true t10, decide_true, eq_false c, decide_false, Bool.false_eq_true, f143_j1_eq _ (PP_ok _ _ _)]
      refine (z_call0 (h164 _)).trans ?_
      refine (hsl _ _).trans ?_
      refine (z_call h165 rfl).trans ?_
      refine (hsl _ _).trans ?_
      refine (ha _).trans ?_
      rw [z_finT G X (reup_child _ _) _ _ _ (by rw [hT.dep]; exact hT.le), List.length_map]
end
end Go.AbX
end
section
namespace Go.AbX
open Go.Ab
set_option linter.unusedSimpArgs false
set_option linter.unusedVariables false
set_option maxRecDepth 100000
section
variable (G : Nat → AV) (X : Nat → List AV → St → Res)
theorem u64_wrap (a b : Int) (h0 : 0 ≤ b ∧ b < 18446744073709551616) (h : a = b ∨ a = b - 18446744073709551616) : IntKind.wrap .u64 a = b := by
  have e : IntKind.wrap .u64 a = a % 18446744073709551616 := by
    unfold IntKind.wrap
    simp [IntKind.signed, IntKind.bits]
  rw [e]
  omega
theorem elems_b1 (S : St) (b : Nat) (g : Gr) : elemsOf S (.sl 1 [.int .u8 (b : Int)] g) = some (1, [b].map B) := rfl
theorem dgI_len (n : Int) (h : -10000 < n ∧ n < 10000) : (dgI n).length ≤ 10002 := by
  unfold dgI
  split
  · have := dg_len (-n).toNat
    simp
    omega
  · have := dg_len n.toNat
    omega
theorem f101_ok (hG : G 0 = .vptr powCs) (n : Int) (hn : -10000 < n ∧ n < 10000) (s : St) (d j : Nat) (f : Nat → St) (es : List AV) (hT : TK s d j es.length f) (hb : es.length ≤ 900000) :
    callω T1 G X 101 [.sl 1 es (.buf (.g d j)), .int .i64 n, .int .i64 10] s = .ok (.sl 1 (es ++ (dgI n).map B) (.buf (.g d j))) (f (es.length + (dgI n).length)) := by
  rw [f101_call, f101_eq]
  have hTe := hT.child (Child.enter s)
  unfold dgI
  by_cases h : n < 0
  · have w1 : IntKind.wrap .u64 n = n + 18446744073709551616 := by exact u64_wrap _ _ (by omega) (by omega)
    have w2 : IntKind.wrap .u64 (0 - (n + 18446744073709551616)) = ((-n).toNat : Int) := by exact u64_wrap _ _ (by omega) (by omega)
    have ha := fun (k : K1) (g : Gr) => z_appT G X (k := k) hTe (elems_b1 s.enter 45 g) (by simp) (by simp; omega) (bytes_ok _) (.l 0)
    have hT2 := hTe.next (es.length + 1)
    have e1 : es.length + ([45].map B).length = (es ++ [45].map B).length := by simp
    have hT3 : TK (reup s.enter (f (es.length + 1))) d j (es ++ [45].map B).length (fun m => reup s.enter (f m)) := by
      have : (es ++ [45].map B).length = es.length + 1 := by simp
      rw [this]
      exact hT2
    have h143 := f143_ok G X hG (-n).toNat (by omega) _ d j _ _ hT3 (by simp; omega)
    simp -implicitDefEqProofs only [↓z_ret, ↓z_val, ↓z_pick, ↓z_cond, ↓z_boxRo_agg, ↓z_boxRo_int, ↓z_boxRo_bool, ↓z_boxRo_str, ↓z_boxRo_sl, ↓z_boxRo_fn, ↓z_boxRo_vptr, ↓z_boxRo_ref, ↓z_len_sl, ↓z_len_msl, ↓z_len_str, ↓z_load1, ↓z_fa, ↓z_fa_ref, ↓z_callF, ↓z_andK, ↓z_orK, ↓z_and1, ↓z_and2, ↓z_and3, ↓z_and4, ↓z_and5, ↓z_and6, ↓z_and7, ↓z_and8, ↓z_and9, ↓z_and10, ↓z_and11, ↓z_and12, ↓z_or1, ↓z_or2, ↓z_or3, ↓z_or4, ↓z_or5, ↓z_or6, ↓z_or7, ↓z_or8, ↓z_or9, ↓z_or10, ↓z_or11, ↓z_or12, ↓z_add, ↓z_sub, ↓z_mul, ↓z_eql, ↓z_neq, ↓z_lss, ↓z_leq, ↓z_gtr, ↓z_geq, ↓z_not, ↓z_neg, ↓z_fin_int, ↓z_fin_bool, ↓z_fin_str, ↓z_ent_int, ↓z_ent_bool, ↓z_ent_str, ↓z_stn, ↓z_ldnn, ↓z_ldn0, ↓z_ldn1, ↓z_ldn2, ↓z_ldn3, ↓z_ldn4, ↓z_ldn5, ↓z_ldn6, ↓z_ldn7, ↓z_ldn8, List.drop_zero, List.drop_succ_cons, List.cons_append, List.nil_append, decide_eq_true_eq, decide_eq_false_iff_not, ite_not, ↓reduceIte, pub_agg, pub_int, pub_bool, pub_str, pub_fn, pub_vptr, pub_nilp, Nat.zero_add, List.length_cons, List.length_nil, Nat.reduceAdd, List.all_cons, List.all_nil, isCell_int, isCell_bool, isCell_str, isCell_sl, Bool.and_self, ↓z_loadn, Nat.reduceLeDiff, Nat.le_refl, List.take_succ_cons, List.take_zero, ↓z_ci, w1, eq_true h, decide_true, ↓z_bs1b]
    refine (ha _ _).trans ?_
    simp -implicitDefEqProofs only [↓z_ret, ↓z_val, ↓z_pick, ↓z_cond, ↓z_boxRo_agg, ↓z_boxRo_int, ↓z_boxRo_bool, ↓z_boxRo_str, ↓z_boxRo_sl, ↓z_boxRo_fn, ↓z_boxRo_vptr, ↓z_boxRo_ref, ↓z_len_sl, ↓z_len_msl, ↓z_len_str, ↓z_load1, ↓z_fa, ↓z_fa_ref, ↓z_callF, ↓z_andK, ↓z_orK, ↓z_and1, ↓z_and2, ↓z_and3, ↓z_and4, ↓z_and5, ↓z_and6, ↓z_and7, ↓z_and8, ↓z_and9, ↓z_and10, ↓z_and11, ↓z_and12, ↓z_or1, ↓z_or2, ↓z_or3, ↓z_or4, ↓z_or5, ↓z_or6, ↓z_or7, ↓z_or8, ↓z_or9, ↓z_or10, ↓z_or11, ↓z_or12, ↓z_add, ↓z_sub, ↓z_mul, ↓z_eql, ↓z_neq, ↓z_lss, ↓z_leq, ↓z_gtr, ↓z_geq, ↓z_not, ↓z_neg, ↓z_fin_int, ↓z_fin_bool, ↓z_fin_str, ↓z_ent_int, ↓z_ent_bool, ↓z_ent_str, ↓z_stn, ↓z_ldnn, ↓z_ldn0, ↓z_ldn1, ↓z_ldn2, ↓z_ldn3, ↓z_ldn4, ↓z_ldn5, ↓z_ldn6, ↓z_ldn7, ↓z_ldn8, List.drop_zero, List.drop_succ_cons, List.cons_append, List.nil_append, decide_eq_true_eq, decide_eq_false_iff_not, ite_not, ↓reduceIte, pub_agg, pub_int, pub_bool, pub_str, pub_fn, pub_vptr, pub_nilp, Nat.zero_add, List.length_cons, List.length_nil, Nat.reduceAdd, List.all_cons, List.all_nil, isCell_int, isCell_bool, isCell_str, isCell_sl, Bool.and_self, ↓z_loadn, Nat.reduceLeDiff, Nat.le_refl, List.take_succ_cons, List.take_zero, w2, f101_j1_eq _ (PP_ok _ _ _)]
    refine (z_call h143 ?_).trans ?_
    · show (reup s.enter _).depth = (reup s.enter _).depth
      rw [child_dep (reup_child _ _), child_dep (reup_child _ _), hT.dep, hT.dep]
    · rw [z_finT G X (reup_child _ _) _ _ _ (by rw [hT.dep]; exact hT.le)]
      simp -implicitDefEqProofs only [List.map_cons, List.append_assoc, List.length_append, List.length_cons, List.length_map, List.length_nil, List.map_nil, List.cons_append, List.nil_append]
      congr 2
      omega
  · have w1 : IntKind.wrap .u64 n = (n.toNat : Int) := by exact u64_wrap _ _ (by omega) (by omega)
    have h143 := f143_ok G X hG n.toNat (by omega) _ d j _ _ hTe (by omega)
    simp -implicitDefEqProofs only [↓z_ret, ↓z_val, ↓z_pick, ↓z_cond, ↓z_boxRo_agg, ↓z_boxRo_int, ↓z_boxRo_bool, ↓z_boxRo_str, ↓z_boxRo_sl, ↓z_boxRo_fn, ↓z_boxRo_vptr, ↓z_boxRo_ref, ↓z_len_sl, ↓z_len_msl, ↓z_len_str, ↓z_load1, ↓z_fa, ↓z_fa_ref, ↓z_callF, ↓z_andK, ↓z_orK, ↓z_and1, ↓z_and2, ↓z_and3, ↓z_and4, ↓z_and5, ↓z_and6, ↓z_and7, ↓z_and8, ↓z_and9, ↓z_and10, ↓z_and11, ↓z_and12, ↓z_or1, ↓z_or2, ↓z_or3, ↓z_or4, ↓z_or5, ↓z_or6, ↓z_or7, ↓z_or8, ↓z_or9, ↓z_or10, ↓z_or11, ↓z_or12, ↓z_add, ↓z_sub, ↓z_mul, ↓z_eql, ↓z_neq, ↓z_lss, ↓z_leq, ↓z_gtr, ↓z_geq, ↓z_not, ↓z_neg, ↓z_fin_int, ↓z_fin_bool, ↓z_fin_str, ↓z_ent_int, ↓z_ent_bool, ↓z_ent_str, ↓z_stn, ↓z_ldnn, ↓z_ldn0, ↓z_ldn1, ↓z_ldn2, ↓z_ldn3, ↓z_ldn4, ↓z_ldn5, ↓z_ldn6, ↓z_ldn7, ↓z_ldn8, List.drop_zero, List.drop_succ_cons, List.cons_append, List.nil_append, decide_eq_true_eq, decide_eq_false_iff_not, ite_not, ↓reduceIte, pub_agg, pub_int, pub_bool, pub_str, pub_fn, pub_vptr, pub_nilp, Nat.zero_add, List.length_cons, List.length_nil, Nat.reduceAdd, List.all_cons, List.all_nil, isCell_int, isCell_bool, isCell_str, isCell_sl, Bool.and_self, ↓z_loadn, Nat.reduceLeDiff, Nat.le_refl, List.take_succ_cons, List.take_zero, ↓z_ci, w1, eq_false h, decide_false, Bool.false_eq_true, f101_j1_eq _ (PP_ok _ _ _)]
    refine (z_call h143 ?_).trans ?_
    · show (reup s.enter _).depth = s.enter.depth
      rw [child_dep (reup_child _ _), hT.dep]
      exact (child_dep (Child.enter s)).symm
    · rw [z_finT G X (reup_child _ _) _ _ _ (by rw [hT.dep]; exact hT.le)]
theorem f60_ok (hG : G 0 = .vptr powCs) (n : Int) (hn : -10000 < n ∧ n < 10000) (s : St) (d j : Nat) (f : Nat → St) (es : List AV) (hT : TK s d j es.length f) (hb : es.length ≤ 900000) :
    callω T1 G X 60 [.sl 1 es (.buf (.g d j)), .int .i64 n, .int .i64 10] s = .ok (.sl 1 (es ++ (dgI n).map B) (.buf (.g d j))) (f (es.length + (dgI n).length)) := by
  rw [f60_call, f60_eq]
  have h101 := f101_ok G X hG n hn _ d j _ es (hT.child (Child.enter s)) hb
  refine (z_call h101 ?_).trans ?_
  · show (reup s.enter _).depth = s.enter.depth
    rw [child_dep (reup_child _ _), hT.dep]
    exact (child_dep (Child.enter s)).symm
  · rw [z_finT G X (reup_child _ _) _ _ _ (by rw [hT.dep]; exact hT.le)]
end
end Go.AbX
end
