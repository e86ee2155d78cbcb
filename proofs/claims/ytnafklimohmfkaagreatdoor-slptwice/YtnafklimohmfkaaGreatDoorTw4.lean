/- What the law computes, as the abstract evaluator runs it: for every argument that the texts name. -/
import Derived.Test.YtnafklimohmfkaaGreatDoorTwP
import Derived.Test.YtnafklimohmfkaaGreatDoorRunTw
section
namespace Go.AbZ
open Go.Ab
set_option linter.unusedSimpArgs false
set_option linter.unusedVariables false
section
variable (G : Nat → AV) (X : Nat → List AV → St → Res)
theorem fin_keep (S : St) (cs : List AV) : (PP T1 G X).fin true [some (.msl (.l S.own.length) 0 6 6 1)] (S.new (.cells cs)) = .ok (.msl (.g S.depth S.own.length) 0 6 6 1) (S.new (.cells cs)) := rfl
theorem own_last (S : St) (o : AObj) : (S.new o).own[S.own.length]? = some o := by simp [St.new]
theorem new_set (S : St) (o o' : AObj) : ({ S.new o with own := (S.new o).own.set S.own.length o' } : St) = S.new o' := by simp [St.new]
theorem z_st_own {S : St} {k : K1} {j o : Nat} {cs : List AV} {v : AV} (h : S.own[j]? = some (.cells cs)) (ho : o < cs.length) (hv : v.isCell = true) (hc : v.cells = [v]) :
    (PP T1 G X).store S k 1 (.ref (.l j) o) v = k .dead { S with own := S.own.set j (.cells (cs.set o v)) } := by
  rw [zz_store]
  have hval : v.isVal = true := by cases v <;> first | rfl | cases hv
  simp -implicitDefEqProofs only [storeOp, hval, hc, List.length_cons, List.length_nil, Nat.zero_add, Nat.beq_refl, Bool.and_self, cond_true]
  unfold storeV
  rw [show S.get (.l j) = some (.cells cs) from h]
  simp -implicitDefEqProofs only [List.length_cons, List.length_nil, Nat.zero_add, show Nat.ble (o + 1) cs.length = true from Nat.ble_eq_true_of_le ho, show S.takes (.l j) [v] = true from by simp [St.takes, St.isOwn], List.all_cons, hv, List.all_nil, Bool.and_self, cond_true]
  rfl
theorem f17_l1_ok (inp : List Int) (g : Gr) (S : St) : ∀ (n i : Nat) (l : List Int), i + n = 6 → l.length = 6 → ∃ l' : List Int, l'.length = 6 ∧
    f17_l1 (PP T1 G X) (.sl 1 (inp.map I) g) (.int .i64 6) (.msl (.l S.own.length) 0 6 6 1) (.int .i64 (i : Int)) (S.new (.cells (l.map I))) = .ok (.msl (.g S.depth S.own.length) 0 6 6 1) (S.new (.cells (l'.map I))) := by
  intro n
  induction n with
  | zero =>
    intro i l hi hl
    refine ⟨l, hl, ?_⟩
    have h : ¬ ((i : Int) < 6) := by omega
    rw [f17_l1_eq _ (PP_ok _ _ _)]
    simp -implicitDefEqProofs only [↓z_ret, ↓z_val, ↓z_pick, ↓z_cond, ↓z_boxRo_agg, ↓z_boxRo_int, ↓z_boxRo_bool, ↓z_boxRo_str, ↓z_boxRo_sl, ↓z_boxRo_fn, ↓z_boxRo_vptr, ↓z_boxRo_ref, ↓z_len_sl, ↓z_len_msl, ↓z_len_str, ↓z_load1, ↓z_fa, ↓z_fa_ref, ↓z_callF, ↓z_andK, ↓z_orK, ↓z_and1, ↓z_and2, ↓z_and3, ↓z_and4, ↓z_and5, ↓z_and6, ↓z_and7, ↓z_and8, ↓z_and9, ↓z_and10, ↓z_and11, ↓z_and12, ↓z_or1, ↓z_or2, ↓z_or3, ↓z_or4, ↓z_or5, ↓z_or6, ↓z_or7, ↓z_or8, ↓z_or9, ↓z_or10, ↓z_or11, ↓z_or12, ↓z_add, ↓z_sub, ↓z_mul, ↓z_eql, ↓z_neq, ↓z_lss, ↓z_leq, ↓z_gtr, ↓z_geq, ↓z_not, ↓z_neg, ↓z_fin_int, ↓z_fin_bool, ↓z_fin_str, ↓z_ent_int, ↓z_ent_bool, ↓z_ent_str, ↓z_stn, ↓z_ldnn, ↓z_ldn0, ↓z_ldn1, ↓z_ldn2, ↓z_ldn3, ↓z_ldn4, ↓z_ldn5, ↓z_ldn6, ↓z_ldn7, ↓z_ldn8, List.drop_zero, List.drop_succ_cons, List.cons_append, List.nil_append, decide_eq_true_eq, decide_eq_false_iff_not, ite_not, ↓reduceIte, pub_agg, pub_int, pub_bool, pub_str, pub_fn, pub_vptr, pub_nilp, Nat.zero_add, List.length_cons, List.length_nil, Nat.reduceAdd, List.all_cons, List.all_nil, isCell_int, isCell_bool, isCell_str, isCell_sl, Bool.and_self, ↓z_loadn, Nat.reduceLeDiff, Nat.le_refl, List.take_succ_cons, List.take_zero, eq_false h, decide_false, Bool.false_eq_true, f17_j4_eq _ (PP_ok _ _ _), fin_keep]
  | succ n ih =>
    intro i l hi hl
    have h : (i : Int) < 6 := by omega
    by_cases hlt : i < inp.length
    · have h2 : (i : Int) < (inp.length : Int) := by omega
      have ea : (inp.map I)[i]? = some (I inp[i]) := by simp [hlt]
      have hw1 : IntKind.wrap .i64 ((i : Int) + 1) = ((i + 1 : Nat) : Int) := wrap_succ i (by omega)
      obtain ⟨l', hl', e⟩ := ih (i + 1) (l.set i inp[i]) (by omega) (by simp [hl])
      refine ⟨l', hl', ?_⟩
      have hst := fun (k : K1) => z_st_own G X (S := S.new (.cells (l.map I))) (k := k) (o := i) (v := .int .i64 inp[i]) (own_last S _) (by simp [hl]; omega) rfl rfl
      have hix := fun (k : K1) => z_idx_msl (T := T1) (G := G) (X := X) (S := S.new (.cells (l.map I))) (k := k) (.l S.own.length) 0 6 6 1 .i64 i (by omega)
      simp -implicitDefEqProofs only [Nat.zero_add, Nat.mul_one] at hix
      have e2 : (l.map I).set i (.int .i64 inp[i]) = (l.set i inp[i]).map I := by simp [List.map_set]
      simp -implicitDefEqProofs only [e2, new_set] at hst
      rw [f17_l1_eq _ (PP_ok _ _ _)]
      simp -implicitDefEqProofs only [↓z_ret, ↓z_val, ↓z_pick, ↓z_cond, ↓z_boxRo_agg, ↓z_boxRo_int, ↓z_boxRo_bool, ↓z_boxRo_str, ↓z_boxRo_sl, ↓z_boxRo_fn, ↓z_boxRo_vptr, ↓z_boxRo_ref, ↓z_len_sl, ↓z_len_msl, ↓z_len_str, ↓z_load1, ↓z_fa, ↓z_fa_ref, ↓z_callF, ↓z_andK, ↓z_orK, ↓z_and1, ↓z_and2, ↓z_and3, ↓z_and4, ↓z_and5, ↓z_and6, ↓z_and7, ↓z_and8, ↓z_and9, ↓z_and10, ↓z_and11, ↓z_and12, ↓z_or1, ↓z_or2, ↓z_or3, ↓z_or4, ↓z_or5, ↓z_or6, ↓z_or7, ↓z_or8, ↓z_or9, ↓z_or10, ↓z_or11, ↓z_or12, ↓z_add, ↓z_sub, ↓z_mul, ↓z_eql, ↓z_neq, ↓z_lss, ↓z_leq, ↓z_gtr, ↓z_geq, ↓z_not, ↓z_neg, ↓z_fin_int, ↓z_fin_bool, ↓z_fin_str, ↓z_ent_int, ↓z_ent_bool, ↓z_ent_str, ↓z_stn, ↓z_ldnn, ↓z_ldn0, ↓z_ldn1, ↓z_ldn2, ↓z_ldn3, ↓z_ldn4, ↓z_ldn5, ↓z_ldn6, ↓z_ldn7, ↓z_ldn8, List.drop_zero, List.drop_succ_cons, List.cons_append, List.nil_append, decide_eq_true_eq, decide_eq_false_iff_not, ite_not, ↓reduceIte, pub_agg, pub_int, pub_bool, pub_str, pub_fn, pub_vptr, pub_nilp, Nat.zero_add, List.length_cons, List.length_nil, Nat.reduceAdd, List.all_cons, List.all_nil, isCell_int, isCell_bool, isCell_str, isCell_sl, Bool.and_self, ↓z_loadn, Nat.reduceLeDiff, Nat.le_refl, List.take_succ_cons, List.take_zero, eq_true h, eq_true h2, decide_true, List.length_map, f17_j2_eq _ (PP_ok _ _ _), z_idx _ _ _ _ _ _ ea, AV.cells, ↓hix, ↓hst, f17_j3_eq _ (PP_ok _ _ _), hw1]
      exact e
    · have h2 : ¬ (i : Int) < (inp.length : Int) := by omega
      refine ⟨l, hl, ?_⟩
      rw [f17_l1_eq _ (PP_ok _ _ _)]
      simp -implicitDefEqProofs only [↓z_ret, ↓z_val, ↓z_pick, ↓z_cond, ↓z_boxRo_agg, ↓z_boxRo_int, ↓z_boxRo_bool, ↓z_boxRo_str, ↓z_boxRo_sl, ↓z_boxRo_fn, ↓z_boxRo_vptr, ↓z_boxRo_ref, ↓z_len_sl, ↓z_len_msl, ↓z_len_str, ↓z_load1, ↓z_fa, ↓z_fa_ref, ↓z_callF, ↓z_andK, ↓z_orK, ↓z_and1, ↓z_and2, ↓z_and3, ↓z_and4, ↓z_and5, ↓z_and6, ↓z_and7, ↓z_and8, ↓z_and9, ↓z_and10, ↓z_and11, ↓z_and12, ↓z_or1, ↓z_or2, ↓z_or3, ↓z_or4, ↓z_or5, ↓z_or6, ↓z_or7, ↓z_or8, ↓z_or9, ↓z_or10, ↓z_or11, ↓z_or12, ↓z_add, ↓z_sub, ↓z_mul, ↓z_eql, ↓z_neq, ↓z_lss, ↓z_leq, ↓z_gtr, ↓z_geq, ↓z_not, ↓z_neg, ↓z_fin_int, ↓z_fin_bool, ↓z_fin_str, ↓z_ent_int, ↓z_ent_bool, ↓z_ent_str, ↓z_stn, ↓z_ldnn, ↓z_ldn0, ↓z_ldn1, ↓z_ldn2, ↓z_ldn3, ↓z_ldn4, ↓z_ldn5, ↓z_ldn6, ↓z_ldn7, ↓z_ldn8, List.drop_zero, List.drop_succ_cons, List.cons_append, List.nil_append, decide_eq_true_eq, decide_eq_false_iff_not, ite_not, ↓reduceIte, pub_agg, pub_int, pub_bool, pub_str, pub_fn, pub_vptr, pub_nilp, Nat.zero_add, List.length_cons, List.length_nil, Nat.reduceAdd, List.all_cons, List.all_nil, isCell_int, isCell_bool, isCell_str, isCell_sl, Bool.and_self, ↓z_loadn, Nat.reduceLeDiff, Nat.le_refl, List.take_succ_cons, List.take_zero, eq_true h, eq_false h2, decide_true, decide_false, Bool.false_eq_true, List.length_map, f17_j4_eq _ (PP_ok _ _ _), fin_keep]
theorem f17_ok (inp : List Int) (g : Gr) (S : St) : ∃ l' : List Int, l'.length = 6 ∧ callω T1 G X 17 [.sl 1 (inp.map I) g, .int .i64 6] S = .ok (.msl (.g S.depth S.own.length) 0 6 6 1) (S.new (.cells (l'.map I))) := by
  obtain ⟨l', hl', e⟩ := f17_l1_ok G X inp g S 6 0 [0, 0, 0, 0, 0, 0] rfl rfl
  refine ⟨l', hl', ?_⟩
  have hmk : ∀ k : K1, (PP T1 G X).make S k [.int .i64 0] 8 (.int .i64 6) (.int .i64 6) = k (.msl (.l S.own.length) 0 6 6 1) (S.new (.cells (List.replicate 6 (.int .i64 0)))) := fun k => z_make (T := T1) (G := G) (X := X) (s := S) (k := k) (I 0) 8 6 6 (Nat.le_refl _) (by omega)
  rw [f17_call, f17_eq]
  simp -implicitDefEqProofs only [↓hmk]
  exact e
end
end Go.AbZ
end
section
namespace Go.AbZ
open Go.Ab
set_option linter.unusedSimpArgs false
set_option linter.unusedVariables false
abbrev GD : Nat → AV := fun _ => .dead
theorem dep1 {S : St} (h : Child noSt S) : S.depth = 1 := by simp [St.depth, h.up, h.ro, noSt]
theorem st_eq {S : St} (h : Child noSt S) : S = { own := S.own, up := [[]], ro := [] } := by
  obtain ⟨h1, h2⟩ := h
  cases S
  simp -implicitDefEqProofs only at h1 h2
  rw [h1, h2]
  rfl
section
variable (G : Nat → AV) (X : Nat → List AV → St → Res)
theorem get_gown {S : St} {d j : Nat} (hd : S.depth = d) : S.get (.g d j) = S.own[j]? := by simp [St.get, hd]
theorem z_ldn_own {S : St} {k : K1} {j n : Nat} {cs : List AV} (h : S.own[j]? = some (.cells cs)) (hn : cs.length = n) : (PP T1 G X).load S k (some n) (.ref (.l j) 0) = k (.agg cs) S := by
  rw [zz_load]
  subst hn
  simp -implicitDefEqProofs only [loadOp, show S.get (.l j) = some (.cells cs) from h, loadV, List.drop_zero, show Nat.ble cs.length cs.length = true from Nat.ble_eq_true_of_le (Nat.le_refl _), cond_true, List.take_length]
  rfl
theorem z_ld_gown {S : St} {k : K1} {d j o : Nat} {cs : List AV} {c : AV} (hd : S.depth = d) (h : S.own[j]? = some (.cells cs)) (hc : cs[o]? = some c) : (PP T1 G X).load S k none (.ref (.g d j) o) = k c S := by
  rw [zz_load]
  simp -implicitDefEqProofs only [loadOp, get_gown hd, h, loadV]
  have : cs.drop o = c :: cs.drop (o + 1) := by
    have ho := (List.getElem?_eq_some_iff.1 hc)
    rw [List.drop_eq_getElem_cons ho.1, ho.2]
  rw [this]
  rfl
theorem z_st_gown {S : St} {k : K1} {d j o : Nat} {cs : List AV} {v : AV} (hd : S.depth = d) (h : S.own[j]? = some (.cells cs)) (ho : o < cs.length) (hv : v.isCell = true) (hc : v.cells = [v]) :
    (PP T1 G X).store S k 1 (.ref (.g d j) o) v = k .dead { S with own := S.own.set j (.cells (cs.set o v)) } := by
  rw [zz_store]
  have hval : v.isVal = true := by cases v <;> first | rfl | cases hv
  simp -implicitDefEqProofs only [storeOp, hval, hc, List.length_cons, List.length_nil, Nat.zero_add, Nat.beq_refl, Bool.and_self, cond_true]
  unfold storeV
  simp -implicitDefEqProofs only [get_gown hd, h]
  simp -implicitDefEqProofs only [List.length_cons, List.length_nil, Nat.zero_add, show Nat.ble (o + 1) cs.length = true from Nat.ble_eq_true_of_le ho, show S.takes (.g d j) [v] = true from by simp [St.takes, St.isOwn, hd], List.all_cons, hv, List.all_nil, Bool.and_self, cond_true]
  simp -implicitDefEqProofs only [St.set, hd, if_true]
  rfl
theorem z_ext0' {s : St} {k : K1} (a b c : AV) : (PP T1 G X).extract s k 0 (.tup [a, b, c]) = k a s := z_extract _ _ _ rfl
theorem z_ext1' {s : St} {k : K1} (a b c : AV) : (PP T1 G X).extract s k 1 (.tup [a, b, c]) = k b s := z_extract _ _ _ rfl
theorem z_ext2' {s : St} {k : K1} (a b c : AV) : (PP T1 G X).extract s k 2 (.tup [a, b, c]) = k c s := z_extract _ _ _ rfl
theorem z_ext0 {s : St} {k : K1} (a b : AV) : (PP T1 G X).extract s k 0 (.tup [a, b]) = k a s := z_extract _ _ _ rfl
theorem z_ext1 {s : St} {k : K1} (a b : AV) : (PP T1 G X).extract s k 1 (.tup [a, b]) = k b s := z_extract _ _ _ rfl
theorem pub_slb (d sz : Nat) (es : List AV) (i : Nat) : AV.pub d (.sl sz es (.buf (.l i))) = .sl sz es (.buf (.g d i)) := rfl
theorem pub_sle (d sz : Nat) (es : List AV) : AV.pub d (.sl sz es .exact) = .sl sz es .exact := rfl
theorem pub_sln (d sz : Nat) (es : List AV) (g : Gr) (h : ∀ d, g.pub d = g) : AV.pub d (.sl sz es g) = .sl sz es g := by simp -implicitDefEqProofs only [AV.pub, h]
theorem pub_mslg (e d i o l c z : Nat) : AV.pub e (.msl (.g d i) o l c z) = .msl (.g d i) o l c z := rfl
/-- The last loop: three registers are nothing. -/
theorem f9_l14_ok (v5 v6 v8 v9 v11 v12 : AV) (V : List Int) (hV : V.length = 109) (h2 : V.getD 102 0 = 0) (h5 : V.getD 105 0 = 0) (h8 : V.getD 108 0 = 0) (S : St) (hv5 : v5 = .bool true) :
    f9_l14 (PP T1 G X) v5 v6 v8 v9 v11 v12 (sl1 [102, 105, 108] .any) (sl1 V .exact) (.int .i64 0) S = f9_j17 (PP T1 G X) v5 v6 v8 v9 v11 v12 S := by
  have a2 := fun (k : K1) => idx_out GD X0 V .exact 102 (by omega) (by omega) k S
  have key : ∀ (k : K1) (n : Int), 0 ≤ n → n < 109 → (PP T1 G X).idx S k 1 (.sl 1 (V.map I) .exact) (.int .i64 n) = k (.vptr [I (V.getD n.toNat 0)]) S := fun k n h0 h1 => idx_out G X V .exact n h0 (by omega) k S
  have r0 : ∀ k : K1, (PP T1 G X).idx S k 1 (.sl 1 [I 102, I 105, I 108] .any) (.int .i64 0) = k (.vptr [I 102]) S := fun k => idx_out G X [102, 105, 108] .any 0 (by omega) (by simp) k S
  have r1 : ∀ k : K1, (PP T1 G X).idx S k 1 (.sl 1 [I 102, I 105, I 108] .any) (.int .i64 1) = k (.vptr [I 105]) S := fun k => idx_out G X [102, 105, 108] .any 1 (by omega) (by simp) k S
  have r2 : ∀ k : K1, (PP T1 G X).idx S k 1 (.sl 1 [I 102, I 105, I 108] .any) (.int .i64 2) = k (.vptr [I 108]) S := fun k => idx_out G X [102, 105, 108] .any 2 (by omega) (by simp) k S
  have k2 := fun (k : K1) => key k 102 (by omega) (by omega)
  have k5 := fun (k : K1) => key k 105 (by omega) (by omega)
  have k8 := fun (k : K1) => key k 108 (by omega) (by omega)
  simp -implicitDefEqProofs only [show (102 : Int).toNat = 102 from rfl, show (105 : Int).toNat = 105 from rfl, show (108 : Int).toNat = 108 from rfl, h2, h5, h8] at k2 k5 k8
  have c1 : ¬ (102 : Int) < 0 := by omega
  have c2 : ¬ (105 : Int) < 0 := by omega
  have c3 : ¬ (108 : Int) < 0 := by omega
  have hl : ((V.map I).length : Int) = 109 := by simp [hV]
  have d1 : ¬ (109 : Int) ≤ 102 := by omega
  have d2 : ¬ (109 : Int) ≤ 105 := by omega
  have d3 : ¬ (109 : Int) ≤ 108 := by omega
  have w0 : IntKind.wrap .i64 (0 + 1) = 1 := by decide
  have w1 : IntKind.wrap .i64 (1 + 1) = 2 := by decide
  have w2 : IntKind.wrap .i64 (2 + 1) = 3 := by decide
  have e0 : (0 : Int) < 3 := by omega
  have e1 : (1 : Int) < 3 := by omega
  have e2 : (2 : Int) < 3 := by omega
  have e3 : ¬ (3 : Int) < 3 := by omega
  subst hv5
  simp -implicitDefEqProofs only [sl1, List.map_cons, List.map_nil]
  rw [f9_l14_eq _ (PP_ok _ _ _)]
  simp -implicitDefEqProofs only [↓z_ret, ↓z_val, ↓z_pick, ↓z_cond, ↓z_boxRo_agg, ↓z_boxRo_int, ↓z_boxRo_bool, ↓z_boxRo_str, ↓z_boxRo_sl, ↓z_boxRo_fn, ↓z_boxRo_vptr, ↓z_boxRo_ref, ↓z_len_sl, ↓z_len_msl, ↓z_len_str, ↓z_load1, ↓z_fa, ↓z_fa_ref, ↓z_callF, ↓z_andK, ↓z_orK, ↓z_and1, ↓z_and2, ↓z_and3, ↓z_and4, ↓z_and5, ↓z_and6, ↓z_and7, ↓z_and8, ↓z_and9, ↓z_and10, ↓z_and11, ↓z_and12, ↓z_or1, ↓z_or2, ↓z_or3, ↓z_or4, ↓z_or5, ↓z_or6, ↓z_or7, ↓z_or8, ↓z_or9, ↓z_or10, ↓z_or11, ↓z_or12, ↓z_add, ↓z_sub, ↓z_mul, ↓z_eql, ↓z_neq, ↓z_lss, ↓z_leq, ↓z_gtr, ↓z_geq, ↓z_not, ↓z_neg, ↓z_fin_int, ↓z_fin_bool, ↓z_fin_str, ↓z_ent_int, ↓z_ent_bool, ↓z_ent_str, ↓z_stn, ↓z_ldnn, ↓z_ldn0, ↓z_ldn1, ↓z_ldn2, ↓z_ldn3, ↓z_ldn4, ↓z_ldn5, ↓z_ldn6, ↓z_ldn7, ↓z_ldn8, List.drop_zero, List.drop_succ_cons, List.cons_append, List.nil_append, decide_eq_true_eq, decide_eq_false_iff_not, ite_not, ↓reduceIte, pub_agg, pub_int, pub_bool, pub_str, pub_fn, pub_vptr, pub_nilp, Nat.zero_add, List.length_cons, List.length_nil, Nat.reduceAdd, List.all_cons, List.all_nil, isCell_int, isCell_bool, isCell_str, isCell_sl, Bool.and_self, ↓z_loadn, Nat.reduceLeDiff, Nat.le_refl, List.take_succ_cons, List.take_zero, eq_true e0, decide_true, f9_j15_eq _ (PP_ok _ _ _), ↓r0, eq_false c1, decide_false, Bool.false_eq_true, hl, eq_false d1, ↓k2, not_true_eq_false, f9_j16_eq _ (PP_ok _ _ _), w0]
  rw [f9_l14_eq _ (PP_ok _ _ _)]
  simp -implicitDefEqProofs only [↓z_ret, ↓z_val, ↓z_pick, ↓z_cond, ↓z_boxRo_agg, ↓z_boxRo_int, ↓z_boxRo_bool, ↓z_boxRo_str, ↓z_boxRo_sl, ↓z_boxRo_fn, ↓z_boxRo_vptr, ↓z_boxRo_ref, ↓z_len_sl, ↓z_len_msl, ↓z_len_str, ↓z_load1, ↓z_fa, ↓z_fa_ref, ↓z_callF, ↓z_andK, ↓z_orK, ↓z_and1, ↓z_and2, ↓z_and3, ↓z_and4, ↓z_and5, ↓z_and6, ↓z_and7, ↓z_and8, ↓z_and9, ↓z_and10, ↓z_and11, ↓z_and12, ↓z_or1, ↓z_or2, ↓z_or3, ↓z_or4, ↓z_or5, ↓z_or6, ↓z_or7, ↓z_or8, ↓z_or9, ↓z_or10, ↓z_or11, ↓z_or12, ↓z_add, ↓z_sub, ↓z_mul, ↓z_eql, ↓z_neq, ↓z_lss, ↓z_leq, ↓z_gtr, ↓z_geq, ↓z_not, ↓z_neg, ↓z_fin_int, ↓z_fin_bool, ↓z_fin_str, ↓z_ent_int, ↓z_ent_bool, ↓z_ent_str, ↓z_stn, ↓z_ldnn, ↓z_ldn0, ↓z_ldn1, ↓z_ldn2, ↓z_ldn3, ↓z_ldn4, ↓z_ldn5, ↓z_ldn6, ↓z_ldn7, ↓z_ldn8, List.drop_zero, List.drop_succ_cons, List.cons_append, List.nil_append, decide_eq_true_eq, decide_eq_false_iff_not, ite_not, ↓reduceIte, pub_agg, pub_int, pub_bool, pub_str, pub_fn, pub_vptr, pub_nilp, Nat.zero_add, List.length_cons, List.length_nil, Nat.reduceAdd, List.all_cons, List.all_nil, isCell_int, isCell_bool, isCell_str, isCell_sl, Bool.and_self, ↓z_loadn, Nat.reduceLeDiff, Nat.le_refl, List.take_succ_cons, List.take_zero, eq_true e1, decide_true, f9_j15_eq _ (PP_ok _ _ _), ↓r1, eq_false c2, decide_false, Bool.false_eq_true, hl, eq_false d2, ↓k5, not_true_eq_false, f9_j16_eq _ (PP_ok _ _ _), w1]
  rw [f9_l14_eq _ (PP_ok _ _ _)]
  simp -implicitDefEqProofs only [↓z_ret, ↓z_val, ↓z_pick, ↓z_cond, ↓z_boxRo_agg, ↓z_boxRo_int, ↓z_boxRo_bool, ↓z_boxRo_str, ↓z_boxRo_sl, ↓z_boxRo_fn, ↓z_boxRo_vptr, ↓z_boxRo_ref, ↓z_len_sl, ↓z_len_msl, ↓z_len_str, ↓z_load1, ↓z_fa, ↓z_fa_ref, ↓z_callF, ↓z_andK, ↓z_orK, ↓z_and1, ↓z_and2, ↓z_and3, ↓z_and4, ↓z_and5, ↓z_and6, ↓z_and7, ↓z_and8, ↓z_and9, ↓z_and10, ↓z_and11, ↓z_and12, ↓z_or1, ↓z_or2, ↓z_or3, ↓z_or4, ↓z_or5, ↓z_or6, ↓z_or7, ↓z_or8, ↓z_or9, ↓z_or10, ↓z_or11, ↓z_or12, ↓z_add, ↓z_sub, ↓z_mul, ↓z_eql, ↓z_neq, ↓z_lss, ↓z_leq, ↓z_gtr, ↓z_geq, ↓z_not, ↓z_neg, ↓z_fin_int, ↓z_fin_bool, ↓z_fin_str, ↓z_ent_int, ↓z_ent_bool, ↓z_ent_str, ↓z_stn, ↓z_ldnn, ↓z_ldn0, ↓z_ldn1, ↓z_ldn2, ↓z_ldn3, ↓z_ldn4, ↓z_ldn5, ↓z_ldn6, ↓z_ldn7, ↓z_ldn8, List.drop_zero, List.drop_succ_cons, List.cons_append, List.nil_append, decide_eq_true_eq, decide_eq_false_iff_not, ite_not, ↓reduceIte, pub_agg, pub_int, pub_bool, pub_str, pub_fn, pub_vptr, pub_nilp, Nat.zero_add, List.length_cons, List.length_nil, Nat.reduceAdd, List.all_cons, List.all_nil, isCell_int, isCell_bool, isCell_str, isCell_sl, Bool.and_self, ↓z_loadn, Nat.reduceLeDiff, Nat.le_refl, List.take_succ_cons, List.take_zero, eq_true e2, decide_true, f9_j15_eq _ (PP_ok _ _ _), ↓r2, eq_false c3, decide_false, Bool.false_eq_true, hl, eq_false d3, ↓k8, not_true_eq_false, f9_j16_eq _ (PP_ok _ _ _), w2]
  rw [f9_l14_eq _ (PP_ok _ _ _)]
  simp -implicitDefEqProofs only [↓z_ret, ↓z_val, ↓z_pick, ↓z_cond, ↓z_boxRo_agg, ↓z_boxRo_int, ↓z_boxRo_bool, ↓z_boxRo_str, ↓z_boxRo_sl, ↓z_boxRo_fn, ↓z_boxRo_vptr, ↓z_boxRo_ref, ↓z_len_sl, ↓z_len_msl, ↓z_len_str, ↓z_load1, ↓z_fa, ↓z_fa_ref, ↓z_callF, ↓z_andK, ↓z_orK, ↓z_and1, ↓z_and2, ↓z_and3, ↓z_and4, ↓z_and5, ↓z_and6, ↓z_and7, ↓z_and8, ↓z_and9, ↓z_and10, ↓z_and11, ↓z_and12, ↓z_or1, ↓z_or2, ↓z_or3, ↓z_or4, ↓z_or5, ↓z_or6, ↓z_or7, ↓z_or8, ↓z_or9, ↓z_or10, ↓z_or11, ↓z_or12, ↓z_add, ↓z_sub, ↓z_mul, ↓z_eql, ↓z_neq, ↓z_lss, ↓z_leq, ↓z_gtr, ↓z_geq, ↓z_not, ↓z_neg, ↓z_fin_int, ↓z_fin_bool, ↓z_fin_str, ↓z_ent_int, ↓z_ent_bool, ↓z_ent_str, ↓z_stn, ↓z_ldnn, ↓z_ldn0, ↓z_ldn1, ↓z_ldn2, ↓z_ldn3, ↓z_ldn4, ↓z_ldn5, ↓z_ldn6, ↓z_ldn7, ↓z_ldn8, List.drop_zero, List.drop_succ_cons, List.cons_append, List.nil_append, decide_eq_true_eq, decide_eq_false_iff_not, ite_not, ↓reduceIte, pub_agg, pub_int, pub_bool, pub_str, pub_fn, pub_vptr, pub_nilp, Nat.zero_add, List.length_cons, List.length_nil, Nat.reduceAdd, List.all_cons, List.all_nil, isCell_int, isCell_bool, isCell_str, isCell_sl, Bool.and_self, ↓z_loadn, Nat.reduceLeDiff, Nat.le_refl, List.take_succ_cons, List.take_zero, eq_false e3, decide_false, Bool.false_eq_true]
end
end Go.AbZ
end
section
namespace Go.AbZ
open Go.Ab
set_option linter.unusedSimpArgs false
set_option linter.unusedVariables false
section
noncomputable abbrev PZ : Zenv := PP T1 GD X0
theorem z_st4 (S : St) (k : K1) (p : Prog) : PZ.store (S.new (.cells [.int .i64 0, .sl 3 [] .nil, .sl 1 [] .nil, .sl 1 [] .nil])) k 4 (.ref (.l S.own.length) 0) (.agg p.cs) = k .dead (S.new (.cells p.cs)) := z_stn 4 _ _ rfl rfl rfl
theorem z_bld_rel (s : St) (k : K1) (es : List AV) : PZ.build [.int .i64 0, .sl 1 [] .nil] [(0, 1, (.int .i64 1)), (1, 1, .sl 1 es .exact)] s k = k (.agg [I 1, .sl 1 es .exact]) s := rfl
theorem z_ldp0 (S : St) (k : K1) (p : Prog) : PZ.load (S.new (.cells p.cs)) k none (.ref (.l S.own.length) 0) = k (I p.inputs) (S.new (.cells p.cs)) := z_ldn0 _ _
theorem z_ldp4 (S : St) (k : K1) (p : Prog) : PZ.load (S.new (.cells p.cs)) k (some 4) (.ref (.l S.own.length) 0) = k (.agg p.cs) (S.new (.cells p.cs)) := z_ldnn 4 p.cs (Nat.le_refl _)
/-- One of the two relations. -/
theorem f9_j11_ok (p : Prog) (es : List AV) (rel : AV) (pr : Int) (xs : List Int) (jr jx : Nat) (v11 v12 : AV) (S : St) (hS : Child noSt S)
    (hidx : ∀ k : K1, PZ.idx S k 1 v11 v12 = k (.vptr [.sl 1 es .exact]) S)
    (h35 : ∀ o : List AObj, callω T1 GD X0 35 [twL, .agg [I 1, .sl 1 es .exact]] { own := o, up := [[]], ro := [] } = .ok (.tup [p.enc, sl1 [102, 105, 108] .any, I 0]) { own := o, up := [[]], ro := [] })
    (hr : S.own[jr]? = some (.cells (rcs pr 0))) (hx : S.own[jx]? = some (.cells (xs.map I))) (hxl : xs.length = 6)
    (hc : p.check = 0) (hin : p.inputs = 6) (hv : p.vals.length ≤ 9223372036854775807) (hvv : ∀ v, v ∈ p.vals → v.1.length ≤ 9223372036854775807) (hil : p.ins.length = 109)
    (z2 : (runR (opsM pr 0) xs p.ins 0 []).getD 102 0 = 0) (z5 : (runR (opsM pr 0) xs p.ins 0 []).getD 105 0 = 0) (z8 : (runR (opsM pr 0) xs p.ins 0 []).getD 108 0 = 0) :
    f9_j11 PZ (.bool true) (.sl 12 tw8 (.buf (.l 0))) (.ref (.l jr) 0) (.msl (.g 1 jx) 0 6 6 1) v11 v12 S = f9_j17 PZ (.bool true) (.sl 12 tw8 (.buf (.l 0))) (.ref (.l jr) 0) (.msl (.g 1 jx) 0 6 6 1) v11 v12 (S.new (.cells p.cs)) := by
  have hd := dep1 hS
  have h35' : callω T1 GD X0 35 [.sl 12 tw8 (.buf (.g 1 0)), .agg [I 1, .sl 1 es .exact]] S = .ok (.tup [.agg p.cs, .sl 1 [I 102, I 105, I 108] .any, I 0]) S := by
    have := h35 S.own
    rw [← st_eq hS] at this
    exact this
  have hS' : Child noSt (S.new (.cells p.cs)) := hS.new _
  have hd' := dep1 hS'
  have hr' := own_new hr (.cells p.cs)
  have hx' := own_new hx (.cells p.cs)
  have h20 := f20_ok GD X0 pr 0
  have hring : (AV.agg (ringCs pr 0)).refless = true := rfl
  have hr10 : AV.reflessL [.agg (rcs pr 0)] = true := rfl
  have hI := inOK_own GD X0 (S.new (.cells p.cs)) jx xs 6 hxl.symm hx'
  rw [hd'] at hI
  have h19 : callω T1 GD X0 19 [.agg p.cs, .agg (ringCs pr 0), .msl (.g 1 jx) 0 6 6 1] (S.new (.cells p.cs)) = .ok (.tup [sl1 (runR (opsM pr 0) xs p.ins 0 []) .exact, I 0]) (S.new (.cells p.cs)) :=
    f19_ok GD X0 (ringOK_pure GD X0 pr 0 (S.new (.cells p.cs))) p xs _ hI hv hvv (by rw [hxl, hin]; rfl) hc
  have hlen : (runR (opsM pr 0) xs p.ins 0 []).length = 109 := by
    have := runR_len (opsM pr 0) xs p.ins 0 []
    simp at this
    omega
  generalize runR (opsM pr 0) xs p.ins 0 [] = V at *
  have h14 := f9_l14_ok GD X0 (.bool true) (.sl 12 tw8 (.buf (.l 0))) (.ref (.l jr) 0) (.msl (.g 1 jx) 0 6 6 1) v11 v12 V hlen z2 z5 z8 (S.new (.cells p.cs)) rfl
  rw [f9_j11_eq _ (PP_ok _ _ _)]
  have n0 : ¬ ¬ (0 : Int) = 0 := by omega
  simp -implicitDefEqProofs only [hidx, ↓z_ret, ↓z_val, ↓z_pick, ↓z_cond, ↓z_boxRo_agg, ↓z_boxRo_int, ↓z_boxRo_bool, ↓z_boxRo_str, ↓z_boxRo_sl, ↓z_boxRo_fn, ↓z_boxRo_vptr, ↓z_boxRo_ref, ↓z_len_sl, ↓z_len_msl, ↓z_len_str, ↓z_load1, ↓z_fa, ↓z_fa_ref, ↓z_callF, ↓z_andK, ↓z_orK, ↓z_and1, ↓z_and2, ↓z_and3, ↓z_and4, ↓z_and5, ↓z_and6, ↓z_and7, ↓z_and8, ↓z_and9, ↓z_and10, ↓z_and11, ↓z_and12, ↓z_or1, ↓z_or2, ↓z_or3, ↓z_or4, ↓z_or5, ↓z_or6, ↓z_or7, ↓z_or8, ↓z_or9, ↓z_or10, ↓z_or11, ↓z_or12, ↓z_add, ↓z_sub, ↓z_mul, ↓z_eql, ↓z_neq, ↓z_lss, ↓z_leq, ↓z_gtr, ↓z_geq, ↓z_not, ↓z_neg, ↓z_fin_int, ↓z_fin_bool, ↓z_fin_str, ↓z_ent_int, ↓z_ent_bool, ↓z_ent_str, ↓z_stn, ↓z_ldnn, ↓z_ldn0, ↓z_ldn1, ↓z_ldn2, ↓z_ldn3, ↓z_ldn4, ↓z_ldn5, ↓z_ldn6, ↓z_ldn7, ↓z_ldn8, List.drop_zero, List.drop_succ_cons, List.cons_append, List.nil_append, decide_eq_true_eq, decide_eq_false_iff_not, ite_not, ↓reduceIte, pub_agg, pub_int, pub_bool, pub_str, pub_fn, pub_vptr, pub_nilp, Nat.zero_add, List.length_cons, List.length_nil, Nat.reduceAdd, List.all_cons, List.all_nil, isCell_int, isCell_bool, isCell_str, isCell_sl, Bool.and_self, ↓z_loadn, Nat.reduceLeDiff, Nat.le_refl, List.take_succ_cons, List.take_zero, ↓z_bld_rel, pub_slb, hd, z_call0 h35', ↓z_ext0', ↓z_ext1', ↓z_ext2', ↓z_st4, eq_false n0, decide_false, Bool.false_eq_true, List.length_map, List.map_cons, List.map_nil]
  have e3 : ((3 : Nat) : Int) = 3 := rfl
  have n6 : ¬ ¬ (6 : Int) = 6 := by omega
  have hl8 := fun (k : K1) => z_ldn_own GD X0 (S := S.new (.cells p.cs)) (k := k) hr' (n := 3) rfl
  simp -implicitDefEqProofs only [eq_true e3, ↓reduceIte, ↓z_ldp0, ↓z_ret, ↓z_val, ↓z_pick, ↓z_cond, ↓z_boxRo_agg, ↓z_boxRo_int, ↓z_boxRo_bool, ↓z_boxRo_str, ↓z_boxRo_sl, ↓z_boxRo_fn, ↓z_boxRo_vptr, ↓z_boxRo_ref, ↓z_len_sl, ↓z_len_msl, ↓z_len_str, ↓z_load1, ↓z_fa, ↓z_fa_ref, ↓z_callF, ↓z_andK, ↓z_orK, ↓z_and1, ↓z_and2, ↓z_and3, ↓z_and4, ↓z_and5, ↓z_and6, ↓z_and7, ↓z_and8, ↓z_and9, ↓z_and10, ↓z_and11, ↓z_and12, ↓z_or1, ↓z_or2, ↓z_or3, ↓z_or4, ↓z_or5, ↓z_or6, ↓z_or7, ↓z_or8, ↓z_or9, ↓z_or10, ↓z_or11, ↓z_or12, ↓z_add, ↓z_sub, ↓z_mul, ↓z_eql, ↓z_neq, ↓z_lss, ↓z_leq, ↓z_gtr, ↓z_geq, ↓z_not, ↓z_neg, ↓z_fin_int, ↓z_fin_bool, ↓z_fin_str, ↓z_ent_int, ↓z_ent_bool, ↓z_ent_str, ↓z_stn, ↓z_ldnn, ↓z_ldn0, ↓z_ldn1, ↓z_ldn2, ↓z_ldn3, ↓z_ldn4, ↓z_ldn5, ↓z_ldn6, ↓z_ldn7, ↓z_ldn8, List.drop_zero, List.drop_succ_cons, List.cons_append, List.nil_append, decide_eq_true_eq, decide_eq_false_iff_not, ite_not, ↓reduceIte, pub_agg, pub_int, pub_bool, pub_str, pub_fn, pub_vptr, pub_nilp, Nat.zero_add, List.length_cons, List.length_nil, Nat.reduceAdd, List.all_cons, List.all_nil, isCell_int, isCell_bool, isCell_str, isCell_sl, Bool.and_self, ↓z_loadn, Nat.reduceLeDiff, Nat.le_refl, List.take_succ_cons, List.take_zero, hin, eq_false n6, decide_false, Bool.false_eq_true, f9_j12_eq _ (PP_ok _ _ _), ↓z_ldp4, ↓hl8, z_callP hr10 h20 hring, pub_mslg, z_call0 h19, ↓z_ext0, ↓z_ext1, eq_false n0, f9_j13_eq _ (PP_ok _ _ _)]
  exact h14
end
end Go.AbZ
end
section
namespace Go.AbZ
open Go.Ab
set_option linter.unusedSimpArgs false
set_option linter.unusedVariables false
theorem tp0_in : tp0.inputs = 6 := rfl
theorem tp1_in : tp1.inputs = 6 := rfl
theorem tp0_vals : tp0.vals.length = 8 ∧ ∀ v, v ∈ tp0.vals → v.1.length ≤ 8 := ⟨rfl, by decide⟩
theorem tp1_vals : tp1.vals.length = 8 ∧ ∀ v, v ∈ tp1.vals → v.1.length ≤ 8 := ⟨rfl, by decide⟩
theorem tp0_len : tp0.ins.length = 109 := rfl
theorem tp1_len : tp1.ins.length = 109 := rfl
theorem congL_self (pr : Int) (xs : List Int) (h : ∀ q, q < xs.length → 0 ≤ xs.getD q 0 ∧ xs.getD q 0 < pr) : CongL pr xs xs := ⟨rfl, fun i hi => ⟨(h i hi).1, (h i hi).2, (Int.emod_eq_of_lt (h i hi).1 (h i hi).2).symm⟩⟩
theorem zero_of (pr : Int) (h0 : 0 < pr) (hb : pr ≤ 2147483647) (xs : List Int) (hx : xs.length = 6) (h : ∀ q, q < 6 → 0 ≤ xs.getD q 0 ∧ xs.getD q 0 < pr) (ins : List Ins) (hok : okAll 6 ins 0 = true) (hnr : noRoot ins = true) (r : Nat) (hr : r < ins.length) (hz : (runR opsZ xs ins 0 []).getD r 0 = 0) : (runR (opsM pr 0) xs ins 0 []).getD r 0 = 0 := by
  have := cong_runR h0 hb 0 xs xs (congL_self pr xs (by rw [hx]; exact h)) ins 0 0 [] [] (by rw [hx]; exact hok) hnr rfl ⟨rfl, fun i hi => by simp at hi⟩
  have hl := runR_len (opsM pr 0) xs ins 0 []
  have h2 := this.2 r (by rw [hl]; simpa using hr)
  rw [h2.eq, hz]
  simp
theorem z_bs2 (s : St) (k : K1) (a b : Int) : PZ.buildSlice s k 1 [.int .i64 a, .int .i64 b] = k (.sl 1 [.int .i64 a, .int .i64 b] .exact) s := rfl
theorem z_bs2s (s : St) (k : K1) (a b c d : Int) : PZ.buildSlice s k 1 [.sl 1 [.int .i64 a, .int .i64 b] .exact, .sl 1 [.int .i64 c, .int .i64 d] .exact] = k (.sl 1 [.sl 1 [.int .i64 a, .int .i64 b] .exact, .sl 1 [.int .i64 c, .int .i64 d] .exact] .exact) s := rfl
/-- The two relations. -/
theorem f9_j9_ok (pr : Int) (h0 : 0 < pr) (hb : pr ≤ 2147483647) (xs : List Int) (jr jx : Nat) (S : St) (hS : Child noSt S) (hr : S.own[jr]? = some (.cells (rcs pr 0))) (hx : S.own[jx]? = some (.cells (xs.map I))) (hxl : xs.length = 6) (hq : ∀ q, q < 6 → 0 ≤ xs.getD q 0 ∧ xs.getD q 0 < pr) :
    f9_j9 PZ (.bool true) (.sl 12 tw8 (.buf (.l 0))) (.ref (.l jr) 0) (.msl (.g 1 jx) 0 6 6 1) S = .ok (.bool true) noSt := by
  have a := fun r hr' hz => zero_of pr h0 hb xs hxl hq tins0 ok_t0 nr_t0 r hr' hz
  have b := fun r hr' hz => zero_of pr h0 hb xs hxl hq tins1 ok_t1 nr_t1 r hr' hz
  obtain ⟨a1, a2, a3⟩ := zero_t0 xs
  obtain ⟨b1, b2, b3⟩ := zero_t1 xs
  have z1 := fun S hS hr hx hidx => f9_j11_ok tp0 [I 2, I 5] (.dead) pr xs jr jx (.sl 1 [.sl 1 [I 2, I 5] .exact, .sl 1 [I 2, I 7] .exact] .exact) (.int .i64 0) S hS hidx f35_0 hr hx hxl chk_0 tp0_in (by rw [tp0_vals.1]; omega) (fun v hv => by have := tp0_vals.2 v hv; omega) tp0_len (a 102 (by decide) a1) (a 105 (by decide) a2) (a 108 (by decide) a3)
  have z2 := fun S hS hr hx hidx => f9_j11_ok tp1 [I 2, I 7] (.dead) pr xs jr jx (.sl 1 [.sl 1 [I 2, I 5] .exact, .sl 1 [I 2, I 7] .exact] .exact) (.int .i64 1) S hS hidx f35_1 hr hx hxl chk_1 tp1_in (by rw [tp1_vals.1]; omega) (fun v hv => by have := tp1_vals.2 v hv; omega) tp1_len (b 102 (by decide) b1) (b 105 (by decide) b2) (b 108 (by decide) b3)
  have y1 := z1 S hS hr hx (fun k => z_idxI 1 _ _ .i64 0 (.sl 1 [I 2, I 5] .exact) (by omega) rfl)
  have y2 := z2 _ (hS.new (.cells tp0.cs)) (own_new hr _) (own_new hx _) (fun k => z_idxI 1 _ _ .i64 1 (.sl 1 [I 2, I 7] .exact) (by omega) rfl)
  have hS3 := (hS.new (.cells tp0.cs)).new (.cells tp1.cs)
  have l0 : (0 : Int) < 2 := by omega
  have l1 : (1 : Int) < 2 := by omega
  have l2 : ¬ (2 : Int) < 2 := by omega
  have w0 : IntKind.wrap .i64 (0 + 1) = 1 := by decide
  have w1 : IntKind.wrap .i64 (1 + 1) = 2 := by decide
  have e2 : ((2 : Nat) : Int) = 2 := rfl
  rw [f9_j9_eq _ (PP_ok _ _ _)]
  simp -implicitDefEqProofs only [↓z_bs2, ↓z_bs2s]
  rw [f9_l10_eq _ (PP_ok _ _ _)]
  simp -implicitDefEqProofs only [↓z_ret, ↓z_val, ↓z_pick, ↓z_cond, ↓z_boxRo_agg, ↓z_boxRo_int, ↓z_boxRo_bool, ↓z_boxRo_str, ↓z_boxRo_sl, ↓z_boxRo_fn, ↓z_boxRo_vptr, ↓z_boxRo_ref, ↓z_len_sl, ↓z_len_msl, ↓z_len_str, ↓z_load1, ↓z_fa, ↓z_fa_ref, ↓z_callF, ↓z_andK, ↓z_orK, ↓z_and1, ↓z_and2, ↓z_and3, ↓z_and4, ↓z_and5, ↓z_and6, ↓z_and7, ↓z_and8, ↓z_and9, ↓z_and10, ↓z_and11, ↓z_and12, ↓z_or1, ↓z_or2, ↓z_or3, ↓z_or4, ↓z_or5, ↓z_or6, ↓z_or7, ↓z_or8, ↓z_or9, ↓z_or10, ↓z_or11, ↓z_or12, ↓z_add, ↓z_sub, ↓z_mul, ↓z_eql, ↓z_neq, ↓z_lss, ↓z_leq, ↓z_gtr, ↓z_geq, ↓z_not, ↓z_neg, ↓z_fin_int, ↓z_fin_bool, ↓z_fin_str, ↓z_ent_int, ↓z_ent_bool, ↓z_ent_str, ↓z_stn, ↓z_ldnn, ↓z_ldn0, ↓z_ldn1, ↓z_ldn2, ↓z_ldn3, ↓z_ldn4, ↓z_ldn5, ↓z_ldn6, ↓z_ldn7, ↓z_ldn8, List.drop_zero, List.drop_succ_cons, List.cons_append, List.nil_append, decide_eq_true_eq, decide_eq_false_iff_not, ite_not, ↓reduceIte, pub_agg, pub_int, pub_bool, pub_str, pub_fn, pub_vptr, pub_nilp, Nat.zero_add, List.length_cons, List.length_nil, Nat.reduceAdd, List.all_cons, List.all_nil, isCell_int, isCell_bool, isCell_str, isCell_sl, Bool.and_self, ↓z_loadn, Nat.reduceLeDiff, Nat.le_refl, List.take_succ_cons, List.take_zero, e2, eq_true l0, decide_true]
  simp -implicitDefEqProofs only [y1]
  rw [f9_j17_eq _ (PP_ok _ _ _)]
  simp -implicitDefEqProofs only [↓z_ret, ↓z_val, ↓z_pick, ↓z_cond, ↓z_boxRo_agg, ↓z_boxRo_int, ↓z_boxRo_bool, ↓z_boxRo_str, ↓z_boxRo_sl, ↓z_boxRo_fn, ↓z_boxRo_vptr, ↓z_boxRo_ref, ↓z_len_sl, ↓z_len_msl, ↓z_len_str, ↓z_load1, ↓z_fa, ↓z_fa_ref, ↓z_callF, ↓z_andK, ↓z_orK, ↓z_and1, ↓z_and2, ↓z_and3, ↓z_and4, ↓z_and5, ↓z_and6, ↓z_and7, ↓z_and8, ↓z_and9, ↓z_and10, ↓z_and11, ↓z_and12, ↓z_or1, ↓z_or2, ↓z_or3, ↓z_or4, ↓z_or5, ↓z_or6, ↓z_or7, ↓z_or8, ↓z_or9, ↓z_or10, ↓z_or11, ↓z_or12, ↓z_add, ↓z_sub, ↓z_mul, ↓z_eql, ↓z_neq, ↓z_lss, ↓z_leq, ↓z_gtr, ↓z_geq, ↓z_not, ↓z_neg, ↓z_fin_int, ↓z_fin_bool, ↓z_fin_str, ↓z_ent_int, ↓z_ent_bool, ↓z_ent_str, ↓z_stn, ↓z_ldnn, ↓z_ldn0, ↓z_ldn1, ↓z_ldn2, ↓z_ldn3, ↓z_ldn4, ↓z_ldn5, ↓z_ldn6, ↓z_ldn7, ↓z_ldn8, List.drop_zero, List.drop_succ_cons, List.cons_append, List.nil_append, decide_eq_true_eq, decide_eq_false_iff_not, ite_not, ↓reduceIte, pub_agg, pub_int, pub_bool, pub_str, pub_fn, pub_vptr, pub_nilp, Nat.zero_add, List.length_cons, List.length_nil, Nat.reduceAdd, List.all_cons, List.all_nil, isCell_int, isCell_bool, isCell_str, isCell_sl, Bool.and_self, ↓z_loadn, Nat.reduceLeDiff, Nat.le_refl, List.take_succ_cons, List.take_zero, w0]
  rw [f9_l10_eq _ (PP_ok _ _ _)]
  simp -implicitDefEqProofs only [↓z_ret, ↓z_val, ↓z_pick, ↓z_cond, ↓z_boxRo_agg, ↓z_boxRo_int, ↓z_boxRo_bool, ↓z_boxRo_str, ↓z_boxRo_sl, ↓z_boxRo_fn, ↓z_boxRo_vptr, ↓z_boxRo_ref, ↓z_len_sl, ↓z_len_msl, ↓z_len_str, ↓z_load1, ↓z_fa, ↓z_fa_ref, ↓z_callF, ↓z_andK, ↓z_orK, ↓z_and1, ↓z_and2, ↓z_and3, ↓z_and4, ↓z_and5, ↓z_and6, ↓z_and7, ↓z_and8, ↓z_and9, ↓z_and10, ↓z_and11, ↓z_and12, ↓z_or1, ↓z_or2, ↓z_or3, ↓z_or4, ↓z_or5, ↓z_or6, ↓z_or7, ↓z_or8, ↓z_or9, ↓z_or10, ↓z_or11, ↓z_or12, ↓z_add, ↓z_sub, ↓z_mul, ↓z_eql, ↓z_neq, ↓z_lss, ↓z_leq, ↓z_gtr, ↓z_geq, ↓z_not, ↓z_neg, ↓z_fin_int, ↓z_fin_bool, ↓z_fin_str, ↓z_ent_int, ↓z_ent_bool, ↓z_ent_str, ↓z_stn, ↓z_ldnn, ↓z_ldn0, ↓z_ldn1, ↓z_ldn2, ↓z_ldn3, ↓z_ldn4, ↓z_ldn5, ↓z_ldn6, ↓z_ldn7, ↓z_ldn8, List.drop_zero, List.drop_succ_cons, List.cons_append, List.nil_append, decide_eq_true_eq, decide_eq_false_iff_not, ite_not, ↓reduceIte, pub_agg, pub_int, pub_bool, pub_str, pub_fn, pub_vptr, pub_nilp, Nat.zero_add, List.length_cons, List.length_nil, Nat.reduceAdd, List.all_cons, List.all_nil, isCell_int, isCell_bool, isCell_str, isCell_sl, Bool.and_self, ↓z_loadn, Nat.reduceLeDiff, Nat.le_refl, List.take_succ_cons, List.take_zero, e2, eq_true l1, decide_true]
  simp -implicitDefEqProofs only [y2]
  rw [f9_j17_eq _ (PP_ok _ _ _)]
  simp -implicitDefEqProofs only [↓z_ret, ↓z_val, ↓z_pick, ↓z_cond, ↓z_boxRo_agg, ↓z_boxRo_int, ↓z_boxRo_bool, ↓z_boxRo_str, ↓z_boxRo_sl, ↓z_boxRo_fn, ↓z_boxRo_vptr, ↓z_boxRo_ref, ↓z_len_sl, ↓z_len_msl, ↓z_len_str, ↓z_load1, ↓z_fa, ↓z_fa_ref, ↓z_callF, ↓z_andK, ↓z_orK, ↓z_and1, ↓z_and2, ↓z_and3, ↓z_and4, ↓z_and5, ↓z_and6, ↓z_and7, ↓z_and8, ↓z_and9, ↓z_and10, ↓z_and11, ↓z_and12, ↓z_or1, ↓z_or2, ↓z_or3, ↓z_or4, ↓z_or5, ↓z_or6, ↓z_or7, ↓z_or8, ↓z_or9, ↓z_or10, ↓z_or11, ↓z_or12, ↓z_add, ↓z_sub, ↓z_mul, ↓z_eql, ↓z_neq, ↓z_lss, ↓z_leq, ↓z_gtr, ↓z_geq, ↓z_not, ↓z_neg, ↓z_fin_int, ↓z_fin_bool, ↓z_fin_str, ↓z_ent_int, ↓z_ent_bool, ↓z_ent_str, ↓z_stn, ↓z_ldnn, ↓z_ldn0, ↓z_ldn1, ↓z_ldn2, ↓z_ldn3, ↓z_ldn4, ↓z_ldn5, ↓z_ldn6, ↓z_ldn7, ↓z_ldn8, List.drop_zero, List.drop_succ_cons, List.cons_append, List.nil_append, decide_eq_true_eq, decide_eq_false_iff_not, ite_not, ↓reduceIte, pub_agg, pub_int, pub_bool, pub_str, pub_fn, pub_vptr, pub_nilp, Nat.zero_add, List.length_cons, List.length_nil, Nat.reduceAdd, List.all_cons, List.all_nil, isCell_int, isCell_bool, isCell_str, isCell_sl, Bool.and_self, ↓z_loadn, Nat.reduceLeDiff, Nat.le_refl, List.take_succ_cons, List.take_zero, w1]
  rw [f9_l10_eq _ (PP_ok _ _ _)]
  simp -implicitDefEqProofs only [↓z_ret, ↓z_val, ↓z_pick, ↓z_cond, ↓z_boxRo_agg, ↓z_boxRo_int, ↓z_boxRo_bool, ↓z_boxRo_str, ↓z_boxRo_sl, ↓z_boxRo_fn, ↓z_boxRo_vptr, ↓z_boxRo_ref, ↓z_len_sl, ↓z_len_msl, ↓z_len_str, ↓z_load1, ↓z_fa, ↓z_fa_ref, ↓z_callF, ↓z_andK, ↓z_orK, ↓z_and1, ↓z_and2, ↓z_and3, ↓z_and4, ↓z_and5, ↓z_and6, ↓z_and7, ↓z_and8, ↓z_and9, ↓z_and10, ↓z_and11, ↓z_and12, ↓z_or1, ↓z_or2, ↓z_or3, ↓z_or4, ↓z_or5, ↓z_or6, ↓z_or7, ↓z_or8, ↓z_or9, ↓z_or10, ↓z_or11, ↓z_or12, ↓z_add, ↓z_sub, ↓z_mul, ↓z_eql, ↓z_neq, ↓z_lss, ↓z_leq, ↓z_gtr, ↓z_geq, ↓z_not, ↓z_neg, ↓z_fin_int, ↓z_fin_bool, ↓z_fin_str, ↓z_ent_int, ↓z_ent_bool, ↓z_ent_str, ↓z_stn, ↓z_ldnn, ↓z_ldn0, ↓z_ldn1, ↓z_ldn2, ↓z_ldn3, ↓z_ldn4, ↓z_ldn5, ↓z_ldn6, ↓z_ldn7, ↓z_ldn8, List.drop_zero, List.drop_succ_cons, List.cons_append, List.nil_append, decide_eq_true_eq, decide_eq_false_iff_not, ite_not, ↓reduceIte, pub_agg, pub_int, pub_bool, pub_str, pub_fn, pub_vptr, pub_nilp, Nat.zero_add, List.length_cons, List.length_nil, Nat.reduceAdd, List.all_cons, List.all_nil, isCell_int, isCell_bool, isCell_str, isCell_sl, Bool.and_self, ↓z_loadn, Nat.reduceLeDiff, Nat.le_refl, List.take_succ_cons, List.take_zero, e2, eq_false l2, decide_false, Bool.false_eq_true, f9_j18_eq _ (PP_ok _ _ _), z_finC_bool hS3]
/-- The inputs are reduced. -/
theorem f9_l6_ok (pr : Int) (h0 : 0 < pr) (hb : pr ≤ 2147483647) (jr jx : Nat) (hne : jr ≠ jx) : ∀ (n i : Nat) (l : List Int) (S : St), i + n = 6 → l.length = 6 → Child noSt S → S.own[jr]? = some (.cells (rcs pr 0)) → S.own[jx]? = some (.cells (l.map I)) → (∀ q, q < i → 0 ≤ l.getD q 0 ∧ l.getD q 0 < pr) →
    f9_l6 PZ (.bool true) (.sl 12 tw8 (.buf (.l 0))) (.ref (.l jr) 0) (.msl (.g 1 jx) 0 6 6 1) (.int .i64 (i : Int)) S = .ok (.bool true) noSt := by
  intro n
  induction n with
  | zero =>
    intro i l S hi hl hS hr hx hq
    have h : ¬ ((i : Int) < 6) := by omega
    have hi' : i = 6 := by omega
    subst hi'
    rw [f9_l6_eq _ (PP_ok _ _ _)]
    simp -implicitDefEqProofs only [↓z_ret, ↓z_val, ↓z_pick, ↓z_cond, ↓z_boxRo_agg, ↓z_boxRo_int, ↓z_boxRo_bool, ↓z_boxRo_str, ↓z_boxRo_sl, ↓z_boxRo_fn, ↓z_boxRo_vptr, ↓z_boxRo_ref, ↓z_len_sl, ↓z_len_msl, ↓z_len_str, ↓z_load1, ↓z_fa, ↓z_fa_ref, ↓z_callF, ↓z_andK, ↓z_orK, ↓z_and1, ↓z_and2, ↓z_and3, ↓z_and4, ↓z_and5, ↓z_and6, ↓z_and7, ↓z_and8, ↓z_and9, ↓z_and10, ↓z_and11, ↓z_and12, ↓z_or1, ↓z_or2, ↓z_or3, ↓z_or4, ↓z_or5, ↓z_or6, ↓z_or7, ↓z_or8, ↓z_or9, ↓z_or10, ↓z_or11, ↓z_or12, ↓z_add, ↓z_sub, ↓z_mul, ↓z_eql, ↓z_neq, ↓z_lss, ↓z_leq, ↓z_gtr, ↓z_geq, ↓z_not, ↓z_neg, ↓z_fin_int, ↓z_fin_bool, ↓z_fin_str, ↓z_ent_int, ↓z_ent_bool, ↓z_ent_str, ↓z_stn, ↓z_ldnn, ↓z_ldn0, ↓z_ldn1, ↓z_ldn2, ↓z_ldn3, ↓z_ldn4, ↓z_ldn5, ↓z_ldn6, ↓z_ldn7, ↓z_ldn8, List.drop_zero, List.drop_succ_cons, List.cons_append, List.nil_append, decide_eq_true_eq, decide_eq_false_iff_not, ite_not, ↓reduceIte, pub_agg, pub_int, pub_bool, pub_str, pub_fn, pub_vptr, pub_nilp, Nat.zero_add, List.length_cons, List.length_nil, Nat.reduceAdd, List.all_cons, List.all_nil, isCell_int, isCell_bool, isCell_str, isCell_sl, Bool.and_self, ↓z_loadn, Nat.reduceLeDiff, Nat.le_refl, List.take_succ_cons, List.take_zero, eq_false h, decide_false, Bool.false_eq_true]
    exact f9_j9_ok pr h0 hb l jr jx S hS hr hx hl hq
  | succ n ih =>
    intro i l S hi hl hS hr hx hq
    have h : (i : Int) < 6 := by omega
    have hil : i < l.length := by omega
    have hd := dep1 hS
    have hix := fun (k : K1) (S : St) => z_idx_msl (T := T1) (G := GD) (X := X0) (S := S) (k := k) (.g 1 jx) 0 6 6 1 .i64 i (by omega)
    simp -implicitDefEqProofs only [Nat.zero_add, Nat.mul_one] at hix
    have hld := fun (k : K1) => z_ld_gown GD X0 (k := k) (o := i) (c := I l[i]) hd hx (by simp [hil])
    have hlr := fun (k : K1) => z_ldn_own GD X0 (k := k) hr (n := 3) rfl
    have hst := fun (k : K1) => z_st_gown GD X0 (k := k) (o := i) (v := .int .i64 (redI pr l[i])) hd hx (by simpa using hil) rfl rfl
    have e2 : (l.map I).set i (.int .i64 (redI pr l[i])) = (l.set i (redI pr l[i])).map I := by simp [List.map_set]
    have hw1 : IntKind.wrap .i64 ((i : Int) + 1) = ((i + 1 : Nat) : Int) := wrap_succ i (by omega)
    have hjx := (List.getElem?_eq_some_iff.1 hx).1
    rw [e2] at hst
    have hred : 0 ≤ redI pr l[i] ∧ redI pr l[i] < pr := by
      rw [redI_pos h0 (by omega)]
      exact ⟨Int.emod_nonneg _ (by omega), Int.emod_lt_of_pos _ h0⟩
    rw [f9_l6_eq _ (PP_ok _ _ _)]
    simp -implicitDefEqProofs only [↓z_ret, ↓z_val, ↓z_pick, ↓z_cond, ↓z_boxRo_agg, ↓z_boxRo_int, ↓z_boxRo_bool, ↓z_boxRo_str, ↓z_boxRo_sl, ↓z_boxRo_fn, ↓z_boxRo_vptr, ↓z_boxRo_ref, ↓z_len_sl, ↓z_len_msl, ↓z_len_str, ↓z_load1, ↓z_fa, ↓z_fa_ref, ↓z_callF, ↓z_andK, ↓z_orK, ↓z_and1, ↓z_and2, ↓z_and3, ↓z_and4, ↓z_and5, ↓z_and6, ↓z_and7, ↓z_and8, ↓z_and9, ↓z_and10, ↓z_and11, ↓z_and12, ↓z_or1, ↓z_or2, ↓z_or3, ↓z_or4, ↓z_or5, ↓z_or6, ↓z_or7, ↓z_or8, ↓z_or9, ↓z_or10, ↓z_or11, ↓z_or12, ↓z_add, ↓z_sub, ↓z_mul, ↓z_eql, ↓z_neq, ↓z_lss, ↓z_leq, ↓z_gtr, ↓z_geq, ↓z_not, ↓z_neg, ↓z_fin_int, ↓z_fin_bool, ↓z_fin_str, ↓z_ent_int, ↓z_ent_bool, ↓z_ent_str, ↓z_stn, ↓z_ldnn, ↓z_ldn0, ↓z_ldn1, ↓z_ldn2, ↓z_ldn3, ↓z_ldn4, ↓z_ldn5, ↓z_ldn6, ↓z_ldn7, ↓z_ldn8, List.drop_zero, List.drop_succ_cons, List.cons_append, List.nil_append, decide_eq_true_eq, decide_eq_false_iff_not, ite_not, ↓reduceIte, pub_agg, pub_int, pub_bool, pub_str, pub_fn, pub_vptr, pub_nilp, Nat.zero_add, List.length_cons, List.length_nil, Nat.reduceAdd, List.all_cons, List.all_nil, isCell_int, isCell_bool, isCell_str, isCell_sl, Bool.and_self, ↓z_loadn, Nat.reduceLeDiff, Nat.le_refl, List.take_succ_cons, List.take_zero, eq_true h, decide_true, f9_j7_eq _ (PP_ok _ _ _), ↓hix, ↓hld, ↓hlr, z_call0 (f18_ok' GD X0 _ _ _ _), ↓hst, f9_j8_eq _ (PP_ok _ _ _), hw1]
    refine ih (i + 1) (l.set i (redI pr l[i])) _ (by omega) (by simp [hl]) ⟨hS.up, hS.ro⟩ ?_ ?_ fun q hq' => ?_
    · simp -implicitDefEqProofs only
      rw [List.getElem?_set_ne (fun e => hne e.symm)]
      exact hr
    · simp [hjx]
    · by_cases hqi : q = i
      · subst hqi
        have : (l.set q (redI pr l[q])).getD q 0 = redI pr l[q] := by simp [List.getD, hil]
        rw [this]
        exact hred
      · have : (l.set i (redI pr l[i])).getD q 0 = l.getD q 0 := by
          simp -implicitDefEqProofs only [List.getD]
          rw [List.getElem?_set_ne (fun e => hqi e.symm)]
        rw [this]
        exact hq q (by omega)
end Go.AbZ
end
section
namespace Go.AbZ
open Go.Ab
set_option linter.unusedSimpArgs false
set_option linter.unusedVariables false
theorem z_ci (s : St) (k : K1) (n : Int) : PZ.convInt s k .u8 (.int .i64 n) = k (.int .u8 (IntKind.wrap .u8 n)) s := rfl
theorem z_bs1b (s : St) (k : K1) (n : Int) : PZ.buildSlice s k 1 [.int .u8 n] = k (.sl 1 [.int .u8 n] .exact) s := rfl
theorem z_b2s (s : St) (k : K1) (n : Nat) (h : n < 256) : PZ.bytesToStr s k (.sl 1 [.int .u8 (n : Int)] .exact) = k (.str [n]) s := by
  show bytesToStrV (EV GD (callω T1 GD X0) loopω) s k (.sl 1 [.int .u8 (n : Int)] .exact) = _
  unfold bytesToStrV
  simp -implicitDefEqProofs only [elemsOf, natBytes]
  rw [if_pos (by simpa using h)]
  simp -implicitDefEqProofs only [Option.map_some, oV]
  rfl
theorem z_bld (s : St) (k : K1) (b : List Nat) (n : Int) (x0 x1 x2 x3 y0 y1 y2 y3 : AV) : PZ.build [.str [], .int .i64 0, .sl 1 [] .nil, .bool false, .sl 1 [] .nil, .bool false, .sl 1 [] .nil, .bool false, .sl 1 [] .nil, .bool false, .sl 1 [] .nil, .int .i64 0] [(0, 1, .str b), (1, 1, .int .i64 n), (3, 4, .agg [x0, x1, x2, x3]), (7, 4, .agg [y0, y1, y2, y3])] s k
    = k (.agg [.str b, .int .i64 n, .sl 1 [] .nil, x0, x1, x2, x3, y0, y1, y2, y3, .int .i64 0]) s := rfl
abbrev stepE (b : List Nat) (n : Int) (es : List AV) : AV := .agg [.str b, .int .i64 n, .sl 1 es .exact, .bool false, .sl 1 [] .nil, .bool false, .sl 1 [] .nil, .bool false, .sl 1 [] .nil, .bool false, .sl 1 [] .nil, .int .i64 0]
theorem z_bld2 (s : St) (k : K1) (b : List Nat) (n : Int) (es : List AV) : PZ.build [.str [], .int .i64 0, .sl 1 [] .nil, .bool false, .sl 1 [] .nil, .bool false, .sl 1 [] .nil, .bool false, .sl 1 [] .nil, .bool false, .sl 1 [] .nil, .int .i64 0] [(0, 1, .str b), (1, 1, .int .i64 n), (2, 1, .sl 1 es .exact)] s k
    = k (stepE b n es) s := rfl
theorem z_bs12_2 (s : St) (k : K1) (b c : List Nat) (n m : Int) (es fs : List AV) : PZ.buildSlice s k 12 [stepE b n es, stepE c m fs] = k (.sl 12 [stepE b n es, stepE c m fs] .exact) s := rfl
theorem z_bs12_3 (s : St) (k : K1) (b c d : List Nat) (n m o : Int) (es fs gs : List AV) : PZ.buildSlice s k 12 [stepE b n es, stepE c m fs, stepE d o gs] = k (.sl 12 [stepE b n es, stepE c m fs, stepE d o gs] .exact) s := rfl
theorem z_bs1 (s : St) (k : K1) (a : Int) : PZ.buildSlice s k 1 [.int .i64 a] = k (.sl 1 [.int .i64 a] .exact) s := rfl
theorem z_bs3 (s : St) (k : K1) (a b c : Int) : PZ.buildSlice s k 1 [.int .i64 a, .int .i64 b, .int .i64 c] = k (.sl 1 [.int .i64 a, .int .i64 b, .int .i64 c] .exact) s := rfl
theorem z_bld_r1 (s : St) (k : K1) (x : Int) : PZ.build [.int .i64 0, .int .i64 0, .sl 1 [] .nil] [(0, 1, .int .i64 x)] s k = k (.agg (rcs x 0)) s := rfl
theorem z_st_r (s : St) (k : K1) (x y : Int) : PZ.store (s.new (.cells [.int .i64 0, .int .i64 0, .sl 1 [] .nil])) k 3 (.ref (.l s.own.length) 0) (.agg (rcs x y)) = k .dead (s.new (.cells (rcs x y))) := z_stn 3 _ _ rfl rfl rfl
/-- A free point. -/
abbrev stepF (b : List Nat) (x1 x3 y1 y3 : AV) : AV := .agg [.str b, .int .i64 1, .sl 1 [] .nil, .bool false, x1, .bool false, x3, .bool false, y1, .bool false, y3, .int .i64 0]
theorem f9_l2_at (v0 v1 : AV) (i i1 c sq : Int) (cb : Nat) (x1 x3 y1 y3 : AV) (L : List AV) (S : St) (g : Gr) (R : Res) (hi : i < 3) (h1 : IntKind.wrap .i64 (65 + i) = c) (h2 : IntKind.wrap .u8 c = (cb : Int)) (hcb : cb < 256) (h3 : IntKind.wrap .i64 (i * i) = sq) (h4 : IntKind.wrap .i64 (i + 1) = i1)
    (hx : callω T1 GD X0 41 [I i] noSt = .ok (.agg [.bool false, x1, .bool false, x3]) noSt) (hy : callω T1 GD X0 41 [I sq] noSt = .ok (.agg [.bool false, y1, .bool false, y3]) noSt)
    (rx1 : x1.refless = true) (rx3 : x3.refless = true) (ry1 : y1.refless = true) (ry3 : y3.refless = true) (cx1 : x1.isCell = true) (cx3 : x3.isCell = true) (cy1 : y1.isCell = true) (cy3 : y3.isCell = true)
    (hS : Child noSt S) (hg : Grow S g L.length) (hL : L.length ≤ 100)
    (hk : ∀ g' S', Child noSt S' → Grow S' g' (L.length + 1) → (g ≠ .nil → g' = g) → (g = .nil → g' = .buf (.l S.own.length)) → f9_l2 PZ v0 v1 (.bool true) (.sl 12 (L ++ [stepF [cb] x1 x3 y1 y3]) g') (.int .i64 i1) S' = R) :
    f9_l2 PZ v0 v1 (.bool true) (.sl 12 L g) (.int .i64 i) S = R := by
  have hr : ∀ n : Int, AV.reflessL [I n] = true := fun _ => rfl
  have rx : (AV.agg [.bool false, x1, .bool false, x3]).refless = true := by simp -implicitDefEqProofs only [AV.refless, AV.reflessL, rx1, rx3, Bool.and_self]
  have ry : (AV.agg [.bool false, y1, .bool false, y3]).refless = true := by simp -implicitDefEqProofs only [AV.refless, AV.reflessL, ry1, ry3, Bool.and_self]
  have hb := fun (s : St) (k : K1) => z_buildSlice (T := T1) (G := GD) (X := X0) (s := s) (k := k) 12 [stepF [cb] x1 x3 y1 y3] (by simp -implicitDefEqProofs only [AV.refless, AV.reflessL, rx1, rx3, ry1, ry3, Bool.and_self]) rfl
  rw [f9_l2_eq _ (PP_ok _ _ _)]
  simp -implicitDefEqProofs only [↓z_ret, ↓z_val, ↓z_pick, ↓z_cond, ↓z_boxRo_agg, ↓z_boxRo_int, ↓z_boxRo_bool, ↓z_boxRo_str, ↓z_boxRo_sl, ↓z_boxRo_fn, ↓z_boxRo_vptr, ↓z_boxRo_ref, ↓z_len_sl, ↓z_len_msl, ↓z_len_str, ↓z_load1, ↓z_fa, ↓z_fa_ref, ↓z_callF, ↓z_andK, ↓z_orK, ↓z_and1, ↓z_and2, ↓z_and3, ↓z_and4, ↓z_and5, ↓z_and6, ↓z_and7, ↓z_and8, ↓z_and9, ↓z_and10, ↓z_and11, ↓z_and12, ↓z_or1, ↓z_or2, ↓z_or3, ↓z_or4, ↓z_or5, ↓z_or6, ↓z_or7, ↓z_or8, ↓z_or9, ↓z_or10, ↓z_or11, ↓z_or12, ↓z_add, ↓z_sub, ↓z_mul, ↓z_eql, ↓z_neq, ↓z_lss, ↓z_leq, ↓z_gtr, ↓z_geq, ↓z_not, ↓z_neg, ↓z_fin_int, ↓z_fin_bool, ↓z_fin_str, ↓z_ent_int, ↓z_ent_bool, ↓z_ent_str, ↓z_stn, ↓z_ldnn, ↓z_ldn0, ↓z_ldn1, ↓z_ldn2, ↓z_ldn3, ↓z_ldn4, ↓z_ldn5, ↓z_ldn6, ↓z_ldn7, ↓z_ldn8, List.drop_zero, List.drop_succ_cons, List.cons_append, List.nil_append, decide_eq_true_eq, decide_eq_false_iff_not, ite_not, ↓reduceIte, pub_agg, pub_int, pub_bool, pub_str, pub_fn, pub_vptr, pub_nilp, Nat.zero_add, List.length_cons, List.length_nil, Nat.reduceAdd, List.all_cons, List.all_nil, isCell_int, isCell_bool, isCell_str, isCell_sl, Bool.and_self, ↓z_loadn, Nat.reduceLeDiff, Nat.le_refl, List.take_succ_cons, List.take_zero, eq_true hi, decide_true, f9_j3_eq _ (PP_ok _ _ _), h1, ↓z_ci, h2, ↓z_bs1b, ↓z_b2s _ _ _ hcb, z_callP (hr _) hx rx, h3, z_callP (hr _) hy ry, ↓z_bld, ↓hb]
  refine z_append hg (by simp) (by simp; omega) (by simp [AV.cells, isCell_int, isCell_bool, isCell_str, isCell_sl, cx1, cx3, cy1, cy3]) fun g' S' hg' _ h5 h6 hG => ?_
  rw [f9_j4_eq _ (PP_ok _ _ _)]
  simp -implicitDefEqProofs only [↓z_ret, ↓z_val, ↓z_pick, ↓z_cond, ↓z_boxRo_agg, ↓z_boxRo_int, ↓z_boxRo_bool, ↓z_boxRo_str, ↓z_boxRo_sl, ↓z_boxRo_fn, ↓z_boxRo_vptr, ↓z_boxRo_ref, ↓z_len_sl, ↓z_len_msl, ↓z_len_str, ↓z_load1, ↓z_fa, ↓z_fa_ref, ↓z_callF, ↓z_andK, ↓z_orK, ↓z_and1, ↓z_and2, ↓z_and3, ↓z_and4, ↓z_and5, ↓z_and6, ↓z_and7, ↓z_and8, ↓z_and9, ↓z_and10, ↓z_and11, ↓z_and12, ↓z_or1, ↓z_or2, ↓z_or3, ↓z_or4, ↓z_or5, ↓z_or6, ↓z_or7, ↓z_or8, ↓z_or9, ↓z_or10, ↓z_or11, ↓z_or12, ↓z_add, ↓z_sub, ↓z_mul, ↓z_eql, ↓z_neq, ↓z_lss, ↓z_leq, ↓z_gtr, ↓z_geq, ↓z_not, ↓z_neg, ↓z_fin_int, ↓z_fin_bool, ↓z_fin_str, ↓z_ent_int, ↓z_ent_bool, ↓z_ent_str, ↓z_stn, ↓z_ldnn, ↓z_ldn0, ↓z_ldn1, ↓z_ldn2, ↓z_ldn3, ↓z_ldn4, ↓z_ldn5, ↓z_ldn6, ↓z_ldn7, ↓z_ldn8, List.drop_zero, List.drop_succ_cons, List.cons_append, List.nil_append, decide_eq_true_eq, decide_eq_false_iff_not, ite_not, ↓reduceIte, pub_agg, pub_int, pub_bool, pub_str, pub_fn, pub_vptr, pub_nilp, Nat.zero_add, List.length_cons, List.length_nil, Nat.reduceAdd, List.all_cons, List.all_nil, isCell_int, isCell_bool, isCell_str, isCell_sl, Bool.and_self, ↓z_loadn, Nat.reduceLeDiff, Nat.le_refl, List.take_succ_cons, List.take_zero, h4]
  exact hk g' S' (hG.child hS) hg' h5 h6
end Go.AbZ
end
section
namespace Go.AbZ
open Go.Ab
set_option linter.unusedSimpArgs false
set_option linter.unusedVariables false
theorem of_full {f : Nat} {args : List AV} {s : St} {r : Res} (hr : r ≠ .fail) (h : call Force.full T1 (fun _ => .dead) X0 1000 f args s = r) : callω T1 GD X0 f args s = r := by
  rw [Force.full_eq] at h
  exact callω_of T1 _ X0 hr h
theorem f41_0 : callω T1 GD X0 41 [I 0] noSt = .ok (.agg wh0) noSt := of_full (fun h => by cases h) r41_0
theorem f41_1 : callω T1 GD X0 41 [I 1] noSt = .ok (.agg (wh 1)) noSt := of_full (fun h => by cases h) r41_1
theorem f41_2 : callω T1 GD X0 41 [I 2] noSt = .ok (.agg (wh 2)) noSt := of_full (fun h => by cases h) r41_2
theorem f41_4 : callω T1 GD X0 41 [I 4] noSt = .ok (.agg (wh 4)) noSt := of_full (fun h => by cases h) r41_4
theorem f9_j5_ok (inp : List Int) (gi : Gr) (hgi : ∀ d, gi.pub d = gi) (pr : Int) (h0 : 0 < pr) (hb : pr ≤ 2147483647) (S : St) (hS : Child noSt S) (hg : Grow S (.buf (.l 0)) 3) :
    f9_j5 PZ (.sl 1 (inp.map I) gi) (.int .i64 pr) (.bool true) (.sl 12 tw3 (.buf (.l 0))) S = .ok (.bool true) noSt := by
  rw [f9_j5_eq _ (PP_ok _ _ _)]
  simp -implicitDefEqProofs only [↓z_bs2, ↓z_bld2, ↓z_bs12_3]
  refine z_append hg (by simp) (by show (3 + 3) * 184 ≤ 1099511627776; omega) rfl fun g1 S1 hg1 _ e1 _ hG1 => ?_
  have e1' := e1 (fun h => by cases h)
  subst e1'
  simp -implicitDefEqProofs only [↓z_bs3, ↓z_bs1, ↓z_bld2, ↓z_bs12_2]
  refine z_append (es := tw3 ++ [stepE [108] 3 [I 0, I 1], stepE [80] 13 [I 2, I 3], stepE [81] 13 [I 4, I 3]]) hg1 (by simp) (by show (6 + 2) * 184 ≤ 1099511627776; omega) rfl fun g2 S2 hg2 _ e2 _ hG2 => ?_
  have e2' := e2 (fun h => by cases h)
  subst e2'
  have hS2 : Child noSt S2 := hG2.child (hG1.child hS)
  have hSr := hS2.new (.cells (rcs pr 0))
  obtain ⟨l', hl', h17⟩ := f17_ok GD X0 inp gi (S2.new (.cells (rcs pr 0)))
  rw [dep1 hSr] at h17
  have p6 := pub_sln (S2.new (.cells (rcs pr 0))).depth 1 (inp.map I) gi hgi
  simp -implicitDefEqProofs only [↓z_bld_r1, z_ret, pub_agg, ↓z_st_r, p6, pub_int, z_call h17 rfl]
  have hjr : (S2.new (.cells (rcs pr 0))).own[S2.own.length]? = some (.cells (rcs pr 0)) := by simp [St.new]
  have := f9_l6_ok pr h0 hb S2.own.length (S2.new (.cells (rcs pr 0))).own.length (by simp [St.new]) 6 0 l' ((S2.new (.cells (rcs pr 0))).new (.cells (l'.map I))) (by omega) hl' (hSr.new _) (own_new hjr _) (by simp [St.new]) (fun q hq => absurd hq (by omega))
  exact this
theorem f9_ok (inp : List Int) (gi : Gr) (hgi : ∀ d, gi.pub d = gi) (pr : Int) (h10 : ∃ s', callω T1 GD X0 10 [] { own := [], up := [], ro := [] } = .ok (.bool true) s') :
    callω T1 GD X0 9 [sl1 inp gi, I pr] noSt = .ok (.bool true) noSt := by
  obtain ⟨s10, h10⟩ := h10
  obtain ⟨b, h37, hp⟩ := f37_ok GD X0 pr noSt.enter
  rw [f9_call, f9_eq]
  simp -implicitDefEqProofs only [sl1, ↓z_ret, ↓z_val, ↓z_pick, ↓z_cond, ↓z_boxRo_agg, ↓z_boxRo_int, ↓z_boxRo_bool, ↓z_boxRo_str, ↓z_boxRo_sl, ↓z_boxRo_fn, ↓z_boxRo_vptr, ↓z_boxRo_ref, ↓z_len_sl, ↓z_len_msl, ↓z_len_str, ↓z_load1, ↓z_fa, ↓z_fa_ref, ↓z_callF, ↓z_andK, ↓z_orK, ↓z_and1, ↓z_and2, ↓z_and3, ↓z_and4, ↓z_and5, ↓z_and6, ↓z_and7, ↓z_and8, ↓z_and9, ↓z_and10, ↓z_and11, ↓z_and12, ↓z_or1, ↓z_or2, ↓z_or3, ↓z_or4, ↓z_or5, ↓z_or6, ↓z_or7, ↓z_or8, ↓z_or9, ↓z_or10, ↓z_or11, ↓z_or12, ↓z_add, ↓z_sub, ↓z_mul, ↓z_eql, ↓z_neq, ↓z_lss, ↓z_leq, ↓z_gtr, ↓z_geq, ↓z_not, ↓z_neg, ↓z_fin_int, ↓z_fin_bool, ↓z_fin_str, ↓z_ent_int, ↓z_ent_bool, ↓z_ent_str, ↓z_stn, ↓z_ldnn, ↓z_ldn0, ↓z_ldn1, ↓z_ldn2, ↓z_ldn3, ↓z_ldn4, ↓z_ldn5, ↓z_ldn6, ↓z_ldn7, ↓z_ldn8, List.drop_zero, List.drop_succ_cons, List.cons_append, List.nil_append, decide_eq_true_eq, decide_eq_false_iff_not, ite_not, ↓reduceIte, pub_agg, pub_int, pub_bool, pub_str, pub_fn, pub_vptr, pub_nilp, Nat.zero_add, List.length_cons, List.length_nil, Nat.reduceAdd, List.all_cons, List.all_nil, isCell_int, isCell_bool, isCell_str, isCell_sl, Bool.and_self, ↓z_loadn, Nat.reduceLeDiff, Nat.le_refl, List.take_succ_cons, List.take_zero, z_callP rfl h10 rfl, z_call0 h37]
  cases b with
  | false => simp -implicitDefEqProofs only [Bool.not_false, ↓reduceIte, ↓z_ret, ↓z_val, ↓z_pick, ↓z_cond, ↓z_boxRo_agg, ↓z_boxRo_int, ↓z_boxRo_bool, ↓z_boxRo_str, ↓z_boxRo_sl, ↓z_boxRo_fn, ↓z_boxRo_vptr, ↓z_boxRo_ref, ↓z_len_sl, ↓z_len_msl, ↓z_len_str, ↓z_load1, ↓z_fa, ↓z_fa_ref, ↓z_callF, ↓z_andK, ↓z_orK, ↓z_and1, ↓z_and2, ↓z_and3, ↓z_and4, ↓z_and5, ↓z_and6, ↓z_and7, ↓z_and8, ↓z_and9, ↓z_and10, ↓z_and11, ↓z_and12, ↓z_or1, ↓z_or2, ↓z_or3, ↓z_or4, ↓z_or5, ↓z_or6, ↓z_or7, ↓z_or8, ↓z_or9, ↓z_or10, ↓z_or11, ↓z_or12, ↓z_add, ↓z_sub, ↓z_mul, ↓z_eql, ↓z_neq, ↓z_lss, ↓z_leq, ↓z_gtr, ↓z_geq, ↓z_not, ↓z_neg, ↓z_fin_int, ↓z_fin_bool, ↓z_fin_str, ↓z_ent_int, ↓z_ent_bool, ↓z_ent_str, ↓z_stn, ↓z_ldnn, ↓z_ldn0, ↓z_ldn1, ↓z_ldn2, ↓z_ldn3, ↓z_ldn4, ↓z_ldn5, ↓z_ldn6, ↓z_ldn7, ↓z_ldn8, List.drop_zero, List.drop_succ_cons, List.cons_append, List.nil_append, decide_eq_true_eq, decide_eq_false_iff_not, ite_not, ↓reduceIte, pub_agg, pub_int, pub_bool, pub_str, pub_fn, pub_vptr, pub_nilp, Nat.zero_add, List.length_cons, List.length_nil, Nat.reduceAdd, List.all_cons, List.all_nil, isCell_int, isCell_bool, isCell_str, isCell_sl, Bool.and_self, ↓z_loadn, Nat.reduceLeDiff, Nat.le_refl, List.take_succ_cons, List.take_zero]
  | true =>
    obtain ⟨p3, pb⟩ := hp rfl
    simp -implicitDefEqProofs only [Bool.not_true, Bool.false_eq_true, ↓reduceIte, f9_j1_eq _ (PP_ok _ _ _)]
    refine f9_l2_at _ _ 0 1 65 0 65 _ _ _ _ [] noSt.enter .nil _ (by omega) (by decide) (by decide) (by omega) (by decide) (by decide) f41_0 f41_0 rfl rfl rfl rfl rfl rfl rfl rfl (.enter noSt) .nil (by simp) fun g1 S1 hS1 hg1 _ e1 => ?_
    have e1' := e1 rfl
    have : g1 = .buf (.l 0) := e1'
    subst this
    refine f9_l2_at _ _ 1 2 66 1 66 _ _ _ _ _ S1 _ _ (by omega) (by decide) (by decide) (by omega) (by decide) (by decide) f41_1 f41_1 rfl rfl rfl rfl rfl rfl rfl rfl hS1 hg1 (by simp) fun g2 S2 hS2 hg2 e2 _ => ?_
    have e2' := e2 (fun h => by cases h)
    subst e2'
    refine f9_l2_at _ _ 2 3 67 4 67 _ _ _ _ _ S2 _ _ (by omega) (by decide) (by decide) (by omega) (by decide) (by decide) f41_2 f41_4 rfl rfl rfl rfl rfl rfl rfl rfl hS2 hg2 (by simp) fun g3 S3 hS3 hg3 e3 _ => ?_
    have e3' := e3 (fun h => by cases h)
    subst e3'
    have l3 : ¬ (3 : Int) < 3 := by omega
    rw [f9_l2_eq _ (PP_ok _ _ _)]
    simp -implicitDefEqProofs only [↓z_ret, ↓z_val, ↓z_pick, ↓z_cond, ↓z_boxRo_agg, ↓z_boxRo_int, ↓z_boxRo_bool, ↓z_boxRo_str, ↓z_boxRo_sl, ↓z_boxRo_fn, ↓z_boxRo_vptr, ↓z_boxRo_ref, ↓z_len_sl, ↓z_len_msl, ↓z_len_str, ↓z_load1, ↓z_fa, ↓z_fa_ref, ↓z_callF, ↓z_andK, ↓z_orK, ↓z_and1, ↓z_and2, ↓z_and3, ↓z_and4, ↓z_and5, ↓z_and6, ↓z_and7, ↓z_and8, ↓z_and9, ↓z_and10, ↓z_and11, ↓z_and12, ↓z_or1, ↓z_or2, ↓z_or3, ↓z_or4, ↓z_or5, ↓z_or6, ↓z_or7, ↓z_or8, ↓z_or9, ↓z_or10, ↓z_or11, ↓z_or12, ↓z_add, ↓z_sub, ↓z_mul, ↓z_eql, ↓z_neq, ↓z_lss, ↓z_leq, ↓z_gtr, ↓z_geq, ↓z_not, ↓z_neg, ↓z_fin_int, ↓z_fin_bool, ↓z_fin_str, ↓z_ent_int, ↓z_ent_bool, ↓z_ent_str, ↓z_stn, ↓z_ldnn, ↓z_ldn0, ↓z_ldn1, ↓z_ldn2, ↓z_ldn3, ↓z_ldn4, ↓z_ldn5, ↓z_ldn6, ↓z_ldn7, ↓z_ldn8, List.drop_zero, List.drop_succ_cons, List.cons_append, List.nil_append, decide_eq_true_eq, decide_eq_false_iff_not, ite_not, ↓reduceIte, pub_agg, pub_int, pub_bool, pub_str, pub_fn, pub_vptr, pub_nilp, Nat.zero_add, List.length_cons, List.length_nil, Nat.reduceAdd, List.all_cons, List.all_nil, isCell_int, isCell_bool, isCell_str, isCell_sl, Bool.and_self, ↓z_loadn, Nat.reduceLeDiff, Nat.le_refl, List.take_succ_cons, List.take_zero, eq_false l3, decide_false, Bool.false_eq_true]
    exact f9_j5_ok inp gi hgi pr (by omega) pb S3 hS3 hg3
end Go.AbZ
end
