/- The law's own function, as the abstract evaluator runs it, answers true: for every argument whose lists are no longer than a machine may hold. -/
import Derived.Test.YtnafklimohmfkaaDoorC1
section
namespace Go.AbD
open Go.Ab
variable (G : Nat → AV) (X : Nat → List AV → St → Res)
set_option linter.unusedSimpArgs false
set_option linter.unusedVariables false
theorem degs_len : ∀ (xs : List Ins) (out l : List Int), degs xs out = some l → l.length = out.length + xs.length
  | [], out, l, h => by
    simp -implicitDefEqProofs only [degs, Option.some.injEq] at h
    simp [← h]
  | x :: xs, out, l, h => by
    simp -implicitDefEqProofs only [degs] at h
    split at h
    · cases h
    · have := degs_len xs _ _ h
      simp at this ⊢
      omega
theorem pub_sl (d sz : Nat) (es : List AV) (g : Gr) : AV.pub d (.sl sz es g) = .sl sz es (g.pub d) := rfl
theorem z_ext0 {T : Nat → Option AFn} {s : St} {k : K1} (a b : AV) : (PP T G X).extract s k 0 (.tup [a, b]) = k a s := z_extract _ _ _ rfl
theorem z_ext1 {T : Nat → Option AFn} {s : St} {k : K1} (a b : AV) : (PP T G X).extract s k 1 (.tup [a, b]) = k b s := z_extract _ _ _ rfl
theorem refless_ins (l : List Ins) : AV.reflessL (l.map Ins.enc) = true := by
  induction l with
  | nil => rfl
  | cons x l ih => simp -implicitDefEqProofs only [List.map_cons, AV.reflessL, ih, Bool.and_true, Ins.enc, Ins.cs, AV.refless, Bool.and_self]
theorem gfin_pub {α : Type} (d : Nat) (l : List α) : (gfin l).pub d = gfin l := by unfold gfin; split <;> rfl
theorem exact_pub (d : Nat) : Gr.exact.pub d = .exact := rfl
theorem nil_pub (d : Nat) : Gr.nil.pub d = .nil := rfl
theorem f4_ok (p : Prog) (s : St) (hv : p.vals.length ≤ 9223372036854775807) (hvv : ∀ v, v ∈ p.vals → v.1.length ≤ 9223372036854775807) (hr : p.enc.refless = true) (h6 : ∃ s', callω T1 G X 6 [] { own := [], up := [], ro := [] } = .ok (.bool true) s') :
    callω T1 G X 4 [p.enc] s = .ok (.bool true) s := by
  obtain ⟨s6, h6⟩ := h6
  rw [f4_call, f4_eq]
  have h11 := f11_ok G X p s.enter hv hvv
  have h12 := f12_ok G X p s.enter hv hvv
  have h13 := f13_ok G X p s.enter hv hvv
  have h7 := f7_ok G X p { own := [], up := [], ro := [] } hv hvv
  have hr' : AV.reflessL [p.enc] = true := by simp -implicitDefEqProofs only [AV.reflessL, hr, Bool.and_self]
  simp -implicitDefEqProofs only [Prog.enc, Prog.cs] at h11 h12 h13 h7 hr'
  simp -implicitDefEqProofs only [Prog.enc, Prog.cs, ↓z_ret, ↓z_val, ↓z_pick, ↓z_cond, ↓z_boxRo_agg, ↓z_boxRo_int, ↓z_boxRo_bool, ↓z_boxRo_str, ↓z_boxRo_sl, ↓z_boxRo_fn, ↓z_boxRo_vptr, ↓z_boxRo_ref, ↓z_len_sl, ↓z_len_msl, ↓z_len_str, ↓z_load1, ↓z_fa, ↓z_fa_ref, ↓z_callF, ↓z_andK, ↓z_orK, ↓z_and1, ↓z_and2, ↓z_and3, ↓z_and4, ↓z_and5, ↓z_and6, ↓z_and7, ↓z_and8, ↓z_and9, ↓z_and10, ↓z_and11, ↓z_and12, ↓z_or1, ↓z_or2, ↓z_or3, ↓z_or4, ↓z_or5, ↓z_or6, ↓z_or7, ↓z_or8, ↓z_or9, ↓z_or10, ↓z_or11, ↓z_or12, ↓z_add, ↓z_sub, ↓z_mul, ↓z_eql, ↓z_neq, ↓z_lss, ↓z_leq, ↓z_gtr, ↓z_geq, ↓z_not, ↓z_neg, ↓z_fin_int, ↓z_fin_bool, ↓z_fin_str, ↓z_ent_int, ↓z_ent_bool, ↓z_ent_str, ↓z_stn, ↓z_ldnn, ↓z_ldn0, ↓z_ldn1, ↓z_ldn2, ↓z_ldn3, ↓z_ldn4, ↓z_ldn5, ↓z_ldn6, ↓z_ldn7, ↓z_ldn8, List.drop_zero, List.drop_succ_cons, List.cons_append, List.nil_append, decide_eq_true_eq, decide_eq_false_iff_not, ite_not, ↓reduceIte, pub_agg, pub_int, pub_bool, pub_str, pub_fn, pub_vptr, pub_nilp, Nat.zero_add, List.length_cons, List.length_nil, Nat.reduceAdd, List.all_cons, List.all_nil, isCell_int, isCell_bool, isCell_str, isCell_sl, Bool.and_self, ↓z_loadn, Nat.reduceLeDiff, Nat.le_refl, List.take_succ_cons, List.take_zero, z_callP rfl h6 rfl, z_call0 h11, z_call0 h12]
  by_cases hc : p.check = 0
  · cases hd : degs p.ins [] with
    | none =>
      simp -implicitDefEqProofs only [degA, eq_true hc, if_true, hd, degR, ↓z_ret, ↓z_val, ↓z_pick, ↓z_cond, ↓z_boxRo_agg, ↓z_boxRo_int, ↓z_boxRo_bool, ↓z_boxRo_str, ↓z_boxRo_sl, ↓z_boxRo_fn, ↓z_boxRo_vptr, ↓z_boxRo_ref, ↓z_len_sl, ↓z_len_msl, ↓z_len_str, ↓z_load1, ↓z_fa, ↓z_fa_ref, ↓z_callF, ↓z_andK, ↓z_orK, ↓z_and1, ↓z_and2, ↓z_and3, ↓z_and4, ↓z_and5, ↓z_and6, ↓z_and7, ↓z_and8, ↓z_and9, ↓z_and10, ↓z_and11, ↓z_and12, ↓z_or1, ↓z_or2, ↓z_or3, ↓z_or4, ↓z_or5, ↓z_or6, ↓z_or7, ↓z_or8, ↓z_or9, ↓z_or10, ↓z_or11, ↓z_or12, ↓z_add, ↓z_sub, ↓z_mul, ↓z_eql, ↓z_neq, ↓z_lss, ↓z_leq, ↓z_gtr, ↓z_geq, ↓z_not, ↓z_neg, ↓z_fin_int, ↓z_fin_bool, ↓z_fin_str, ↓z_ent_int, ↓z_ent_bool, ↓z_ent_str, ↓z_stn, ↓z_ldnn, ↓z_ldn0, ↓z_ldn1, ↓z_ldn2, ↓z_ldn3, ↓z_ldn4, ↓z_ldn5, ↓z_ldn6, ↓z_ldn7, ↓z_ldn8, List.drop_zero, List.drop_succ_cons, List.cons_append, List.nil_append, decide_eq_true_eq, decide_eq_false_iff_not, ite_not, ↓reduceIte, pub_agg, pub_int, pub_bool, pub_str, pub_fn, pub_vptr, pub_nilp, Nat.zero_add, List.length_cons, List.length_nil, Nat.reduceAdd, List.all_cons, List.all_nil, isCell_int, isCell_bool, isCell_str, isCell_sl, Bool.and_self, ↓z_loadn, Nat.reduceLeDiff, Nat.le_refl, List.take_succ_cons, List.take_zero, ↓z_ext0, ↓z_ext1, z_call0 h12, z_callP hr' h7 rfl, z_call0 h13, decide_true, pub_sl]
      have h14 := f14_ok G X [] [] .nil .nil s.enter (by simp)
      simp -implicitDefEqProofs only [sl1, List.map_nil] at h14
      simp -implicitDefEqProofs only [gfin_pub, exact_pub, nil_pub, z_call0 h14, decide_true, ↓z_ret, ↓z_val, ↓z_pick, ↓z_cond, ↓z_boxRo_agg, ↓z_boxRo_int, ↓z_boxRo_bool, ↓z_boxRo_str, ↓z_boxRo_sl, ↓z_boxRo_fn, ↓z_boxRo_vptr, ↓z_boxRo_ref, ↓z_len_sl, ↓z_len_msl, ↓z_len_str, ↓z_load1, ↓z_fa, ↓z_fa_ref, ↓z_callF, ↓z_andK, ↓z_orK, ↓z_and1, ↓z_and2, ↓z_and3, ↓z_and4, ↓z_and5, ↓z_and6, ↓z_and7, ↓z_and8, ↓z_and9, ↓z_and10, ↓z_and11, ↓z_and12, ↓z_or1, ↓z_or2, ↓z_or3, ↓z_or4, ↓z_or5, ↓z_or6, ↓z_or7, ↓z_or8, ↓z_or9, ↓z_or10, ↓z_or11, ↓z_or12, ↓z_add, ↓z_sub, ↓z_mul, ↓z_eql, ↓z_neq, ↓z_lss, ↓z_leq, ↓z_gtr, ↓z_geq, ↓z_not, ↓z_neg, ↓z_fin_int, ↓z_fin_bool, ↓z_fin_str, ↓z_ent_int, ↓z_ent_bool, ↓z_ent_str, ↓z_stn, ↓z_ldnn, ↓z_ldn0, ↓z_ldn1, ↓z_ldn2, ↓z_ldn3, ↓z_ldn4, ↓z_ldn5, ↓z_ldn6, ↓z_ldn7, ↓z_ldn8, List.drop_zero, List.drop_succ_cons, List.cons_append, List.nil_append, decide_eq_true_eq, decide_eq_false_iff_not, ite_not, ↓reduceIte, pub_agg, pub_int, pub_bool, pub_str, pub_fn, pub_vptr, pub_nilp, Nat.zero_add, List.length_cons, List.length_nil, Nat.reduceAdd, List.all_cons, List.all_nil, isCell_int, isCell_bool, isCell_str, isCell_sl, Bool.and_self, ↓z_loadn, Nat.reduceLeDiff, Nat.le_refl, List.take_succ_cons, List.take_zero]
    | some l =>
      have hl := degs_len _ _ _ hd
      have h8 := (check0 hc).1
      simp -implicitDefEqProofs only [degA, eq_true hc, if_true, hd, degR, ↓z_ret, ↓z_val, ↓z_pick, ↓z_cond, ↓z_boxRo_agg, ↓z_boxRo_int, ↓z_boxRo_bool, ↓z_boxRo_str, ↓z_boxRo_sl, ↓z_boxRo_fn, ↓z_boxRo_vptr, ↓z_boxRo_ref, ↓z_len_sl, ↓z_len_msl, ↓z_len_str, ↓z_load1, ↓z_fa, ↓z_fa_ref, ↓z_callF, ↓z_andK, ↓z_orK, ↓z_and1, ↓z_and2, ↓z_and3, ↓z_and4, ↓z_and5, ↓z_and6, ↓z_and7, ↓z_and8, ↓z_and9, ↓z_and10, ↓z_and11, ↓z_and12, ↓z_or1, ↓z_or2, ↓z_or3, ↓z_or4, ↓z_or5, ↓z_or6, ↓z_or7, ↓z_or8, ↓z_or9, ↓z_or10, ↓z_or11, ↓z_or12, ↓z_add, ↓z_sub, ↓z_mul, ↓z_eql, ↓z_neq, ↓z_lss, ↓z_leq, ↓z_gtr, ↓z_geq, ↓z_not, ↓z_neg, ↓z_fin_int, ↓z_fin_bool, ↓z_fin_str, ↓z_ent_int, ↓z_ent_bool, ↓z_ent_str, ↓z_stn, ↓z_ldnn, ↓z_ldn0, ↓z_ldn1, ↓z_ldn2, ↓z_ldn3, ↓z_ldn4, ↓z_ldn5, ↓z_ldn6, ↓z_ldn7, ↓z_ldn8, List.drop_zero, List.drop_succ_cons, List.cons_append, List.nil_append, decide_eq_true_eq, decide_eq_false_iff_not, ite_not, ↓reduceIte, pub_agg, pub_int, pub_bool, pub_str, pub_fn, pub_vptr, pub_nilp, Nat.zero_add, List.length_cons, List.length_nil, Nat.reduceAdd, List.all_cons, List.all_nil, isCell_int, isCell_bool, isCell_str, isCell_sl, Bool.and_self, ↓z_loadn, Nat.reduceLeDiff, Nat.le_refl, List.take_succ_cons, List.take_zero, ↓z_ext0, ↓z_ext1, z_call0 h12, z_callP hr' h7 rfl, z_call0 h13, decide_true, pub_sl, sl1]
      have h14 := f14_ok G X l l .exact (gfin l) s.enter (by simp at hl; omega)
      simp -implicitDefEqProofs only [sl1] at h14
      simp -implicitDefEqProofs only [gfin_pub, exact_pub, nil_pub, z_call0 h14, decide_true, ↓z_ret, ↓z_val, ↓z_pick, ↓z_cond, ↓z_boxRo_agg, ↓z_boxRo_int, ↓z_boxRo_bool, ↓z_boxRo_str, ↓z_boxRo_sl, ↓z_boxRo_fn, ↓z_boxRo_vptr, ↓z_boxRo_ref, ↓z_len_sl, ↓z_len_msl, ↓z_len_str, ↓z_load1, ↓z_fa, ↓z_fa_ref, ↓z_callF, ↓z_andK, ↓z_orK, ↓z_and1, ↓z_and2, ↓z_and3, ↓z_and4, ↓z_and5, ↓z_and6, ↓z_and7, ↓z_and8, ↓z_and9, ↓z_and10, ↓z_and11, ↓z_and12, ↓z_or1, ↓z_or2, ↓z_or3, ↓z_or4, ↓z_or5, ↓z_or6, ↓z_or7, ↓z_or8, ↓z_or9, ↓z_or10, ↓z_or11, ↓z_or12, ↓z_add, ↓z_sub, ↓z_mul, ↓z_eql, ↓z_neq, ↓z_lss, ↓z_leq, ↓z_gtr, ↓z_geq, ↓z_not, ↓z_neg, ↓z_fin_int, ↓z_fin_bool, ↓z_fin_str, ↓z_ent_int, ↓z_ent_bool, ↓z_ent_str, ↓z_stn, ↓z_ldnn, ↓z_ldn0, ↓z_ldn1, ↓z_ldn2, ↓z_ldn3, ↓z_ldn4, ↓z_ldn5, ↓z_ldn6, ↓z_ldn7, ↓z_ldn8, List.drop_zero, List.drop_succ_cons, List.cons_append, List.nil_append, decide_eq_true_eq, decide_eq_false_iff_not, ite_not, ↓reduceIte, pub_agg, pub_int, pub_bool, pub_str, pub_fn, pub_vptr, pub_nilp, Nat.zero_add, List.length_cons, List.length_nil, Nat.reduceAdd, List.all_cons, List.all_nil, isCell_int, isCell_bool, isCell_str, isCell_sl, Bool.and_self, ↓z_loadn, Nat.reduceLeDiff, Nat.le_refl, List.take_succ_cons, List.take_zero]
  · simp -implicitDefEqProofs only [degA, eq_false hc, if_false, ↓z_ret, ↓z_val, ↓z_pick, ↓z_cond, ↓z_boxRo_agg, ↓z_boxRo_int, ↓z_boxRo_bool, ↓z_boxRo_str, ↓z_boxRo_sl, ↓z_boxRo_fn, ↓z_boxRo_vptr, ↓z_boxRo_ref, ↓z_len_sl, ↓z_len_msl, ↓z_len_str, ↓z_load1, ↓z_fa, ↓z_fa_ref, ↓z_callF, ↓z_andK, ↓z_orK, ↓z_and1, ↓z_and2, ↓z_and3, ↓z_and4, ↓z_and5, ↓z_and6, ↓z_and7, ↓z_and8, ↓z_and9, ↓z_and10, ↓z_and11, ↓z_and12, ↓z_or1, ↓z_or2, ↓z_or3, ↓z_or4, ↓z_or5, ↓z_or6, ↓z_or7, ↓z_or8, ↓z_or9, ↓z_or10, ↓z_or11, ↓z_or12, ↓z_add, ↓z_sub, ↓z_mul, ↓z_eql, ↓z_neq, ↓z_lss, ↓z_leq, ↓z_gtr, ↓z_geq, ↓z_not, ↓z_neg, ↓z_fin_int, ↓z_fin_bool, ↓z_fin_str, ↓z_ent_int, ↓z_ent_bool, ↓z_ent_str, ↓z_stn, ↓z_ldnn, ↓z_ldn0, ↓z_ldn1, ↓z_ldn2, ↓z_ldn3, ↓z_ldn4, ↓z_ldn5, ↓z_ldn6, ↓z_ldn7, ↓z_ldn8, List.drop_zero, List.drop_succ_cons, List.cons_append, List.nil_append, decide_eq_true_eq, decide_eq_false_iff_not, ite_not, ↓reduceIte, pub_agg, pub_int, pub_bool, pub_str, pub_fn, pub_vptr, pub_nilp, Nat.zero_add, List.length_cons, List.length_nil, Nat.reduceAdd, List.all_cons, List.all_nil, isCell_int, isCell_bool, isCell_str, isCell_sl, Bool.and_self, ↓z_loadn, Nat.reduceLeDiff, Nat.le_refl, List.take_succ_cons, List.take_zero, ↓z_ext0, ↓z_ext1, z_call0 h12, z_callP hr' h7 rfl, z_call0 h13, decide_true, pub_sl]
    have h14 := f14_ok G X [] [] .nil .nil s.enter (by simp)
    simp -implicitDefEqProofs only [sl1, List.map_nil] at h14
    simp -implicitDefEqProofs only [gfin_pub, exact_pub, nil_pub, z_call0 h14, decide_true, ↓z_ret, ↓z_val, ↓z_pick, ↓z_cond, ↓z_boxRo_agg, ↓z_boxRo_int, ↓z_boxRo_bool, ↓z_boxRo_str, ↓z_boxRo_sl, ↓z_boxRo_fn, ↓z_boxRo_vptr, ↓z_boxRo_ref, ↓z_len_sl, ↓z_len_msl, ↓z_len_str, ↓z_load1, ↓z_fa, ↓z_fa_ref, ↓z_callF, ↓z_andK, ↓z_orK, ↓z_and1, ↓z_and2, ↓z_and3, ↓z_and4, ↓z_and5, ↓z_and6, ↓z_and7, ↓z_and8, ↓z_and9, ↓z_and10, ↓z_and11, ↓z_and12, ↓z_or1, ↓z_or2, ↓z_or3, ↓z_or4, ↓z_or5, ↓z_or6, ↓z_or7, ↓z_or8, ↓z_or9, ↓z_or10, ↓z_or11, ↓z_or12, ↓z_add, ↓z_sub, ↓z_mul, ↓z_eql, ↓z_neq, ↓z_lss, ↓z_leq, ↓z_gtr, ↓z_geq, ↓z_not, ↓z_neg, ↓z_fin_int, ↓z_fin_bool, ↓z_fin_str, ↓z_ent_int, ↓z_ent_bool, ↓z_ent_str, ↓z_stn, ↓z_ldnn, ↓z_ldn0, ↓z_ldn1, ↓z_ldn2, ↓z_ldn3, ↓z_ldn4, ↓z_ldn5, ↓z_ldn6, ↓z_ldn7, ↓z_ldn8, List.drop_zero, List.drop_succ_cons, List.cons_append, List.nil_append, decide_eq_true_eq, decide_eq_false_iff_not, ite_not, ↓reduceIte, pub_agg, pub_int, pub_bool, pub_str, pub_fn, pub_vptr, pub_nilp, Nat.zero_add, List.length_cons, List.length_nil, Nat.reduceAdd, List.all_cons, List.all_nil, isCell_int, isCell_bool, isCell_str, isCell_sl, Bool.and_self, ↓z_loadn, Nat.reduceLeDiff, Nat.le_refl, List.take_succ_cons, List.take_zero]
end Go.AbD
end
section
/- Residues: what a rule's ring computes, and that it commutes with the reduction modulo a divisor. -/
namespace Go.AbD
open Go.Ab
theorem w64_in (a : Int) (h1 : -9223372036854775808 ≤ a) (h2 : a ≤ 9223372036854775807) : W64 a = a := wrap_in a h1 h2
/-- Rule.Reduce -/
def redI (m n : Int) : Int := if m ≤ 0 then n else if n.tmod m < 0 then W64 (n.tmod m + m) else n.tmod m
def addI (m a b : Int) : Int := redI m (W64 (a + b))
def subI (m a b : Int) : Int := redI m (W64 (a - b))
def mulI (m a b : Int) : Int := redI m (W64 (a * b))
def rootI (m b i a : Int) : Int := addI m (mulI m (redI m b) a) (redI m (W64 (i + 1)))
theorem redI_pos {m : Int} (h : 0 < m) (h2 : m ≤ 4611686018427387904) (n : Int) : redI m n = n % m := by
  unfold redI
  rw [if_neg (by omega)]
  have h3 := Int.tmod_lt_of_pos n h
  have h4 := Int.mul_tdiv_add_tmod n m
  have h5 : -m < n.tmod m := by
    by_cases hn : 0 ≤ n
    · have := Int.tmod_nonneg m hn
      omega
    · have h6 := Int.tmod_lt_of_pos (-n) h
      rw [Int.neg_tmod] at h6
      omega
  split
  · rw [w64_in _ (by omega) (by omega)]
    have e : n = (n.tmod m + m) + m * (n.tdiv m - 1) := by rw [Int.mul_sub]; omega
    have := Int.add_mul_emod_self_left (n.tmod m + m) m (n.tdiv m - 1)
    rw [← e] at this
    rw [this, Int.emod_eq_of_lt (by omega) (by omega)]
  · have e : n = n.tmod m + m * n.tdiv m := by omega
    have := Int.add_mul_emod_self_left (n.tmod m) m (n.tdiv m)
    rw [← e] at this
    rw [this, Int.emod_eq_of_lt (by omega) (by omega)]
/-- The words of a ring, and what a program comes to in it. -/
structure Ops where
  c : Int → Int
  add : Int → Int → Int
  sub : Int → Int → Int
  mul : Int → Int → Int
  root : Int → Int → Int
def opsM (m b : Int) : Ops := ⟨redI m, addI m, subI m, mulI m, rootI m b⟩
def valR (R : Ops) (inp out : List Int) (nr : Nat) (x : Ins) : Int :=
  if x.op = 1 then inp.getD x.a.toNat 0
  else if x.op = 2 then R.c x.a
  else if x.op = 3 then R.add (out.getD x.a.toNat 0) (out.getD x.b.toNat 0)
  else if x.op = 4 then R.sub (out.getD x.a.toNat 0) (out.getD x.b.toNat 0)
  else if x.op = 5 then R.mul (out.getD x.a.toNat 0) (out.getD x.b.toNat 0)
  else if x.op = 6 then R.root nr (out.getD x.a.toNat 0)
  else 0
def nextR (x : Ins) (nr : Nat) : Nat := if x.op = 6 then nr + 1 else nr
def runR (R : Ops) (inp : List Int) : List Ins → Nat → List Int → List Int
  | [], _, out => out
  | x :: xs, nr, out => runR R inp xs (nextR x nr) (out ++ [valR R inp out nr x])
theorem runR_len (R : Ops) (inp : List Int) : ∀ (xs : List Ins) (nr : Nat) (out : List Int), (runR R inp xs nr out).length = out.length + xs.length
  | [], _, _ => by simp [runR]
  | x :: xs, nr, out => by
    simp only [runR]
    rw [runR_len R inp xs]
    simp; omega
/-- Every instruction may stand where it stands. -/
def okAll (inputs : Int) : List Ins → Nat → Bool
  | [], _ => true
  | x :: xs, i => okIns x i inputs && okAll inputs xs (i + 1)
theorem okAll_scan (roots : List Int) (inputs : Int) : ∀ (xs : List Ins) (i nx m : Nat), scan roots inputs xs i nx = some m → okAll inputs xs i = true
  | [], _, _, _, _ => rfl
  | x :: xs, i, nx, m, h => by
    simp only [scan] at h
    split at h
    · rename_i hok
      simp only [okAll, hok, Bool.true_and]
      split at h
      · split at h
        · exact okAll_scan roots inputs xs _ _ m h
        · cases h
      · exact okAll_scan roots inputs xs _ _ m h
    · cases h
theorem okIns_op {x : Ins} {i inputs : Int} (h : okIns x i inputs = true) : x.op = 1 ∨ x.op = 2 ∨ x.op = 3 ∨ x.op = 4 ∨ x.op = 5 ∨ x.op = 6 := by
  unfold okIns at h
  split at h
  · omega
  split at h
  · omega
  split at h
  · omega
  split at h
  · omega
  · cases h

set_option linter.unusedSectionVars false
/-! Reduction modulo a divisor. -/
theorem emod_dvd {a M n : Int} (h : a ∣ M) : n % M % a = n % a := Int.emod_emod_of_dvd n h
structure Red (a M v w : Int) : Prop where
  lo : 0 ≤ v
  hi : v < M
  eq : v % a = w
section
variable {a M : Int} (ha : 0 < a) (hM : 0 < M) (haM : a ∣ M) (hle : a ≤ M) (hbig : M ≤ 1000000000)
include ha hM haM hle hbig
theorem Red.lo2 {v w : Int} (h : Red a M v w) : 0 ≤ w ∧ w < a := by
  obtain ⟨_, _, rfl⟩ := h
  exact ⟨Int.emod_nonneg _ (by omega), Int.emod_lt_of_pos _ ha⟩
theorem red_red (n : Int) : Red a M (redI M n) (redI a n) := by
  rw [redI_pos hM (by omega), redI_pos ha (by omega)]
  exact ⟨Int.emod_nonneg _ (by omega), Int.emod_lt_of_pos _ hM, emod_dvd haM⟩
theorem red_of {x y : Int} (hx1 : -9223372036854775808 ≤ x) (hx2 : x ≤ 9223372036854775807) (hy1 : -9223372036854775808 ≤ y) (hy2 : y ≤ 9223372036854775807) (e : x % a = y % a) : Red a M (redI M (W64 x)) (redI a (W64 y)) := by
  rw [w64_in _ hx1 hx2, w64_in _ hy1 hy2, redI_pos hM (by omega), redI_pos ha (by omega)]
  exact ⟨Int.emod_nonneg _ (by omega), Int.emod_lt_of_pos _ hM, by rw [emod_dvd haM, e]⟩
theorem red_add {v w v' w' : Int} (h : Red a M v w) (h' : Red a M v' w') : Red a M (addI M v v') (addI a w w') := by
  have l := h.lo2 ha hM haM hle hbig
  have l' := h'.lo2 ha hM haM hle hbig
  have := h.lo; have := h.hi; have := h'.lo; have := h'.hi
  exact red_of ha hM haM hle hbig (by omega) (by omega) (by omega) (by omega) (by rw [← h.eq, ← h'.eq, ← Int.add_emod])
theorem red_sub {v w v' w' : Int} (h : Red a M v w) (h' : Red a M v' w') : Red a M (subI M v v') (subI a w w') := by
  have l := h.lo2 ha hM haM hle hbig
  have l' := h'.lo2 ha hM haM hle hbig
  have := h.lo; have := h.hi; have := h'.lo; have := h'.hi
  exact red_of ha hM haM hle hbig (by omega) (by omega) (by omega) (by omega) (by rw [← h.eq, ← h'.eq, ← Int.sub_emod])
theorem red_mul {v w v' w' : Int} (h : Red a M v w) (h' : Red a M v' w') : Red a M (mulI M v v') (mulI a w w') := by
  have l := h.lo2 ha hM haM hle hbig
  have l' := h'.lo2 ha hM haM hle hbig
  have b1 := h.lo; have b2 := h.hi; have b3 := h'.lo; have b4 := h'.hi
  have p1 : 0 ≤ v * v' := Int.mul_nonneg b1 b3
  have p2 : v * v' ≤ 1000000000 * 1000000000 := Int.mul_le_mul (by omega) (by omega) b3 (by omega)
  have p3 : 0 ≤ w * w' := Int.mul_nonneg l.1 l'.1
  have p4 : w * w' ≤ 1000000000 * 1000000000 := Int.mul_le_mul (by omega) (by omega) l'.1 (by omega)
  exact red_of ha hM haM hle hbig (by omega) (by omega) (by omega) (by omega) (by rw [← h.eq, ← h'.eq, ← Int.mul_emod])
theorem red_root {v w : Int} (b : Int) (i : Int) (h : Red a M v w) : Red a M (rootI M b i v) (rootI a b i w) :=
  red_add ha hM haM hle hbig (red_mul ha hM haM hle hbig (red_red ha hM haM hle hbig b) h) (red_red ha hM haM hle hbig _)
def RedL (a M : Int) (v w : List Int) : Prop := v.length = w.length ∧ ∀ i, i < v.length → Red a M (v.getD i 0) (w.getD i 0)
theorem redL_runR (b : Int) (x y : List Int) (hxy : RedL a M x y) : ∀ (xs : List Ins) (i nr : Nat) (v w : List Int), okAll x.length xs i = true → v.length = i → RedL a M v w →
    RedL a M (runR (opsM M b) x xs nr v) (runR (opsM a b) y xs nr w)
  | [], _, _, _, _, _, _, h => h
  | t :: xs, i, nr, v, w, hok, hi, h => by
    simp only [okAll, Bool.and_eq_true] at hok
    simp only [runR]
    refine redL_runR b x y hxy xs (i + 1) _ _ _ hok.2 (by simp [hi]) ⟨by simp [h.1], fun k hk => ?_⟩
    simp only [List.length_append, List.length_cons, List.length_nil] at hk
    by_cases hkv : k < v.length
    · have := h.2 k hkv
      have hkw : k < w.length := h.1 ▸ hkv
      have e1 : (v ++ [valR (opsM M b) x v nr t]).getD k 0 = v.getD k 0 := by simp only [List.getD]; rw [List.getElem?_append_left hkv]
      have e2 : (w ++ [valR (opsM a b) y w nr t]).getD k 0 = w.getD k 0 := by simp only [List.getD]; rw [List.getElem?_append_left hkw]
      rw [e1, e2]
      exact this
    · have hk' : k = v.length := by omega
      subst hk'
      have hw : v.length = w.length := h.1
      have e1 : (v ++ [valR (opsM M b) x v nr t]).getD v.length 0 = valR (opsM M b) x v nr t := by simp [List.getD]
      have e2 : (w ++ [valR (opsM a b) y w nr t]).getD v.length 0 = valR (opsM a b) y w nr t := by simp [List.getD, hw]
      rw [e1, e2]
      have hx := hok.1
      have hvr := fun (n : Int) (h0 : 0 ≤ n) (h1 : n < (i : Int)) => h.2 n.toNat (by omega)
      unfold okIns at hx
      unfold valR
      split
      · rename_i h1
        simp only [h1, if_true, decide_eq_true_eq] at hx
        exact hxy.2 _ (by omega)
      split
      · exact red_red ha hM haM hle hbig _
      rename_i h1 h2
      split
      · rename_i h3
        simp only [h3] at hx
        simp at hx
        exact red_add ha hM haM hle hbig (hvr _ hx.1.1 hx.1.2) (hvr _ hx.2.1 hx.2.2)
      split
      · rename_i h3
        simp only [h3] at hx
        simp at hx
        exact red_sub ha hM haM hle hbig (hvr _ hx.1.1 hx.1.2) (hvr _ hx.2.1 hx.2.2)
      split
      · rename_i h3
        simp only [h3] at hx
        simp at hx
        exact red_mul ha hM haM hle hbig (hvr _ hx.1.1 hx.1.2) (hvr _ hx.2.1 hx.2.2)
      split
      · rename_i h3
        simp only [h3] at hx
        simp at hx
        exact red_root ha hM haM hle hbig _ _ (hvr _ hx.1.1 hx.1.2)
      · rename_i h3 h4 h5 h6
        have := okIns_op hok.1
        omega
end
end Go.AbD
end
section
namespace Go.AbD
open Go.Ab
variable (G : Nat → AV) (X : Nat → List AV → St → Res)
set_option linter.unusedSimpArgs false
set_option linter.unusedVariables false
theorem z_rem' {s : St} {k : K1} (kk : IntKind) (a b : Int) (h : b ≠ 0) : (PP T1 G X).val s k (binV .rem (.int kk a) (.int kk b)) = k (.int kk (a.tmod b)) s := by
  rw [show binV .rem (.int kk a) (.int kk b) = some (.int kk (a.tmod b)) from by simp [binV, intBin, h]]
  rfl
theorem f8_ok (m b n : Int) (w : AV) (s : St) (hw : w.isVal = true) : callω T1 G X 8 [.agg [I m, I b, w], I n] s = .ok (I (redI m n)) s := by
  rw [f8_call, f8_eq]
  unfold redI
  by_cases h : m ≤ 0
  · simp -implicitDefEqProofs only [↓z_ret, ↓z_val, ↓z_pick, ↓z_cond, ↓z_boxRo_agg, ↓z_boxRo_int, ↓z_boxRo_bool, ↓z_boxRo_str, ↓z_boxRo_sl, ↓z_boxRo_fn, ↓z_boxRo_vptr, ↓z_boxRo_ref, ↓z_len_sl, ↓z_len_msl, ↓z_len_str, ↓z_load1, ↓z_fa, ↓z_fa_ref, ↓z_callF, ↓z_andK, ↓z_orK, ↓z_and1, ↓z_and2, ↓z_and3, ↓z_and4, ↓z_and5, ↓z_and6, ↓z_and7, ↓z_and8, ↓z_and9, ↓z_and10, ↓z_and11, ↓z_and12, ↓z_or1, ↓z_or2, ↓z_or3, ↓z_or4, ↓z_or5, ↓z_or6, ↓z_or7, ↓z_or8, ↓z_or9, ↓z_or10, ↓z_or11, ↓z_or12, ↓z_add, ↓z_sub, ↓z_mul, ↓z_eql, ↓z_neq, ↓z_lss, ↓z_leq, ↓z_gtr, ↓z_geq, ↓z_not, ↓z_neg, ↓z_fin_int, ↓z_fin_bool, ↓z_fin_str, ↓z_ent_int, ↓z_ent_bool, ↓z_ent_str, ↓z_stn, ↓z_ldnn, ↓z_ldn0, ↓z_ldn1, ↓z_ldn2, ↓z_ldn3, ↓z_ldn4, ↓z_ldn5, ↓z_ldn6, ↓z_ldn7, ↓z_ldn8, List.drop_zero, List.drop_succ_cons, List.cons_append, List.nil_append, decide_eq_true_eq, decide_eq_false_iff_not, ite_not, ↓reduceIte, pub_agg, pub_int, pub_bool, pub_str, pub_fn, pub_vptr, pub_nilp, Nat.zero_add, List.length_cons, List.length_nil, Nat.reduceAdd, List.all_cons, List.all_nil, isCell_int, isCell_bool, isCell_str, isCell_sl, Bool.and_self, ↓z_loadn, Nat.reduceLeDiff, Nat.le_refl, List.take_succ_cons, List.take_zero, eq_true h, decide_true]
  · have hm : m ≠ 0 := by omega
    simp -implicitDefEqProofs only [↓z_ret, ↓z_val, ↓z_pick, ↓z_cond, ↓z_boxRo_agg, ↓z_boxRo_int, ↓z_boxRo_bool, ↓z_boxRo_str, ↓z_boxRo_sl, ↓z_boxRo_fn, ↓z_boxRo_vptr, ↓z_boxRo_ref, ↓z_len_sl, ↓z_len_msl, ↓z_len_str, ↓z_load1, ↓z_fa, ↓z_fa_ref, ↓z_callF, ↓z_andK, ↓z_orK, ↓z_and1, ↓z_and2, ↓z_and3, ↓z_and4, ↓z_and5, ↓z_and6, ↓z_and7, ↓z_and8, ↓z_and9, ↓z_and10, ↓z_and11, ↓z_and12, ↓z_or1, ↓z_or2, ↓z_or3, ↓z_or4, ↓z_or5, ↓z_or6, ↓z_or7, ↓z_or8, ↓z_or9, ↓z_or10, ↓z_or11, ↓z_or12, ↓z_add, ↓z_sub, ↓z_mul, ↓z_eql, ↓z_neq, ↓z_lss, ↓z_leq, ↓z_gtr, ↓z_geq, ↓z_not, ↓z_neg, ↓z_fin_int, ↓z_fin_bool, ↓z_fin_str, ↓z_ent_int, ↓z_ent_bool, ↓z_ent_str, ↓z_stn, ↓z_ldnn, ↓z_ldn0, ↓z_ldn1, ↓z_ldn2, ↓z_ldn3, ↓z_ldn4, ↓z_ldn5, ↓z_ldn6, ↓z_ldn7, ↓z_ldn8, List.drop_zero, List.drop_succ_cons, List.cons_append, List.nil_append, decide_eq_true_eq, decide_eq_false_iff_not, ite_not, ↓reduceIte, pub_agg, pub_int, pub_bool, pub_str, pub_fn, pub_vptr, pub_nilp, Nat.zero_add, List.length_cons, List.length_nil, Nat.reduceAdd, List.all_cons, List.all_nil, isCell_int, isCell_bool, isCell_str, isCell_sl, Bool.and_self, ↓z_loadn, Nat.reduceLeDiff, Nat.le_refl, List.take_succ_cons, List.take_zero, eq_false h, decide_false, Bool.false_eq_true, f8_j1_eq _ (PP_ok _ _ _), ↓z_rem' G X _ _ _ hm]
    by_cases h2 : n.tmod m < 0
    · simp -implicitDefEqProofs only [eq_true h2, ↓reduceIte, f8_j2_eq _ (PP_ok _ _ _), ↓z_ret, ↓z_val, ↓z_pick, ↓z_cond, ↓z_boxRo_agg, ↓z_boxRo_int, ↓z_boxRo_bool, ↓z_boxRo_str, ↓z_boxRo_sl, ↓z_boxRo_fn, ↓z_boxRo_vptr, ↓z_boxRo_ref, ↓z_len_sl, ↓z_len_msl, ↓z_len_str, ↓z_load1, ↓z_fa, ↓z_fa_ref, ↓z_callF, ↓z_andK, ↓z_orK, ↓z_and1, ↓z_and2, ↓z_and3, ↓z_and4, ↓z_and5, ↓z_and6, ↓z_and7, ↓z_and8, ↓z_and9, ↓z_and10, ↓z_and11, ↓z_and12, ↓z_or1, ↓z_or2, ↓z_or3, ↓z_or4, ↓z_or5, ↓z_or6, ↓z_or7, ↓z_or8, ↓z_or9, ↓z_or10, ↓z_or11, ↓z_or12, ↓z_add, ↓z_sub, ↓z_mul, ↓z_eql, ↓z_neq, ↓z_lss, ↓z_leq, ↓z_gtr, ↓z_geq, ↓z_not, ↓z_neg, ↓z_fin_int, ↓z_fin_bool, ↓z_fin_str, ↓z_ent_int, ↓z_ent_bool, ↓z_ent_str, ↓z_stn, ↓z_ldnn, ↓z_ldn0, ↓z_ldn1, ↓z_ldn2, ↓z_ldn3, ↓z_ldn4, ↓z_ldn5, ↓z_ldn6, ↓z_ldn7, ↓z_ldn8, List.drop_zero, List.drop_succ_cons, List.cons_append, List.nil_append, decide_eq_true_eq, decide_eq_false_iff_not, ite_not, ↓reduceIte, pub_agg, pub_int, pub_bool, pub_str, pub_fn, pub_vptr, pub_nilp, Nat.zero_add, List.length_cons, List.length_nil, Nat.reduceAdd, List.all_cons, List.all_nil, isCell_int, isCell_bool, isCell_str, isCell_sl, Bool.and_self, ↓z_loadn, Nat.reduceLeDiff, Nat.le_refl, List.take_succ_cons, List.take_zero]
    · simp -implicitDefEqProofs only [eq_false h2, ↓reduceIte, f8_j2_eq _ (PP_ok _ _ _), ↓z_ret, ↓z_val, ↓z_pick, ↓z_cond, ↓z_boxRo_agg, ↓z_boxRo_int, ↓z_boxRo_bool, ↓z_boxRo_str, ↓z_boxRo_sl, ↓z_boxRo_fn, ↓z_boxRo_vptr, ↓z_boxRo_ref, ↓z_len_sl, ↓z_len_msl, ↓z_len_str, ↓z_load1, ↓z_fa, ↓z_fa_ref, ↓z_callF, ↓z_andK, ↓z_orK, ↓z_and1, ↓z_and2, ↓z_and3, ↓z_and4, ↓z_and5, ↓z_and6, ↓z_and7, ↓z_and8, ↓z_and9, ↓z_and10, ↓z_and11, ↓z_and12, ↓z_or1, ↓z_or2, ↓z_or3, ↓z_or4, ↓z_or5, ↓z_or6, ↓z_or7, ↓z_or8, ↓z_or9, ↓z_or10, ↓z_or11, ↓z_or12, ↓z_add, ↓z_sub, ↓z_mul, ↓z_eql, ↓z_neq, ↓z_lss, ↓z_leq, ↓z_gtr, ↓z_geq, ↓z_not, ↓z_neg, ↓z_fin_int, ↓z_fin_bool, ↓z_fin_str, ↓z_ent_int, ↓z_ent_bool, ↓z_ent_str, ↓z_stn, ↓z_ldnn, ↓z_ldn0, ↓z_ldn1, ↓z_ldn2, ↓z_ldn3, ↓z_ldn4, ↓z_ldn5, ↓z_ldn6, ↓z_ldn7, ↓z_ldn8, List.drop_zero, List.drop_succ_cons, List.cons_append, List.nil_append, decide_eq_true_eq, decide_eq_false_iff_not, ite_not, ↓reduceIte, pub_agg, pub_int, pub_bool, pub_str, pub_fn, pub_vptr, pub_nilp, Nat.zero_add, List.length_cons, List.length_nil, Nat.reduceAdd, List.all_cons, List.all_nil, isCell_int, isCell_bool, isCell_str, isCell_sl, Bool.and_self, ↓z_loadn, Nat.reduceLeDiff, Nat.le_refl, List.take_succ_cons, List.take_zero]

abbrev rcs (m b : Int) : List AV := [I m, I b, .sl 1 [] .nil]
theorem rl_val : (AV.sl 1 [] .nil).isVal = true := rfl
theorem f8_ok' (m b n : Int) (s : St) : callω T1 G X 8 [.agg (rcs m b), I n] s = .ok (I (redI m n)) s := f8_ok G X m b n _ s rfl
theorem f21_ok (m b x y : Int) (s : St) : callω T1 G X 21 [.agg (rcs m b), I x, I y] s = .ok (I (addI m x y)) s := by
  rw [f21_call, f21_eq]
  simp -implicitDefEqProofs only [rcs, ↓z_ret, ↓z_val, ↓z_pick, ↓z_cond, ↓z_boxRo_agg, ↓z_boxRo_int, ↓z_boxRo_bool, ↓z_boxRo_str, ↓z_boxRo_sl, ↓z_boxRo_fn, ↓z_boxRo_vptr, ↓z_boxRo_ref, ↓z_len_sl, ↓z_len_msl, ↓z_len_str, ↓z_load1, ↓z_fa, ↓z_fa_ref, ↓z_callF, ↓z_andK, ↓z_orK, ↓z_and1, ↓z_and2, ↓z_and3, ↓z_and4, ↓z_and5, ↓z_and6, ↓z_and7, ↓z_and8, ↓z_and9, ↓z_and10, ↓z_and11, ↓z_and12, ↓z_or1, ↓z_or2, ↓z_or3, ↓z_or4, ↓z_or5, ↓z_or6, ↓z_or7, ↓z_or8, ↓z_or9, ↓z_or10, ↓z_or11, ↓z_or12, ↓z_add, ↓z_sub, ↓z_mul, ↓z_eql, ↓z_neq, ↓z_lss, ↓z_leq, ↓z_gtr, ↓z_geq, ↓z_not, ↓z_neg, ↓z_fin_int, ↓z_fin_bool, ↓z_fin_str, ↓z_ent_int, ↓z_ent_bool, ↓z_ent_str, ↓z_stn, ↓z_ldnn, ↓z_ldn0, ↓z_ldn1, ↓z_ldn2, ↓z_ldn3, ↓z_ldn4, ↓z_ldn5, ↓z_ldn6, ↓z_ldn7, ↓z_ldn8, List.drop_zero, List.drop_succ_cons, List.cons_append, List.nil_append, decide_eq_true_eq, decide_eq_false_iff_not, ite_not, ↓reduceIte, pub_agg, pub_int, pub_bool, pub_str, pub_fn, pub_vptr, pub_nilp, Nat.zero_add, List.length_cons, List.length_nil, Nat.reduceAdd, List.all_cons, List.all_nil, isCell_int, isCell_bool, isCell_str, isCell_sl, Bool.and_self, ↓z_loadn, Nat.reduceLeDiff, Nat.le_refl, List.take_succ_cons, List.take_zero, z_call0 (f8_ok' G X _ _ _ _), addI]
theorem f23_ok (m b x y : Int) (s : St) : callω T1 G X 23 [.agg (rcs m b), I x, I y] s = .ok (I (subI m x y)) s := by
  rw [f23_call, f23_eq]
  simp -implicitDefEqProofs only [rcs, ↓z_ret, ↓z_val, ↓z_pick, ↓z_cond, ↓z_boxRo_agg, ↓z_boxRo_int, ↓z_boxRo_bool, ↓z_boxRo_str, ↓z_boxRo_sl, ↓z_boxRo_fn, ↓z_boxRo_vptr, ↓z_boxRo_ref, ↓z_len_sl, ↓z_len_msl, ↓z_len_str, ↓z_load1, ↓z_fa, ↓z_fa_ref, ↓z_callF, ↓z_andK, ↓z_orK, ↓z_and1, ↓z_and2, ↓z_and3, ↓z_and4, ↓z_and5, ↓z_and6, ↓z_and7, ↓z_and8, ↓z_and9, ↓z_and10, ↓z_and11, ↓z_and12, ↓z_or1, ↓z_or2, ↓z_or3, ↓z_or4, ↓z_or5, ↓z_or6, ↓z_or7, ↓z_or8, ↓z_or9, ↓z_or10, ↓z_or11, ↓z_or12, ↓z_add, ↓z_sub, ↓z_mul, ↓z_eql, ↓z_neq, ↓z_lss, ↓z_leq, ↓z_gtr, ↓z_geq, ↓z_not, ↓z_neg, ↓z_fin_int, ↓z_fin_bool, ↓z_fin_str, ↓z_ent_int, ↓z_ent_bool, ↓z_ent_str, ↓z_stn, ↓z_ldnn, ↓z_ldn0, ↓z_ldn1, ↓z_ldn2, ↓z_ldn3, ↓z_ldn4, ↓z_ldn5, ↓z_ldn6, ↓z_ldn7, ↓z_ldn8, List.drop_zero, List.drop_succ_cons, List.cons_append, List.nil_append, decide_eq_true_eq, decide_eq_false_iff_not, ite_not, ↓reduceIte, pub_agg, pub_int, pub_bool, pub_str, pub_fn, pub_vptr, pub_nilp, Nat.zero_add, List.length_cons, List.length_nil, Nat.reduceAdd, List.all_cons, List.all_nil, isCell_int, isCell_bool, isCell_str, isCell_sl, Bool.and_self, ↓z_loadn, Nat.reduceLeDiff, Nat.le_refl, List.take_succ_cons, List.take_zero, z_call0 (f8_ok' G X _ _ _ _), subI]
theorem f25_ok (m b x y : Int) (s : St) : callω T1 G X 25 [.agg (rcs m b), I x, I y] s = .ok (I (mulI m x y)) s := by
  rw [f25_call, f25_eq]
  simp -implicitDefEqProofs only [rcs, ↓z_ret, ↓z_val, ↓z_pick, ↓z_cond, ↓z_boxRo_agg, ↓z_boxRo_int, ↓z_boxRo_bool, ↓z_boxRo_str, ↓z_boxRo_sl, ↓z_boxRo_fn, ↓z_boxRo_vptr, ↓z_boxRo_ref, ↓z_len_sl, ↓z_len_msl, ↓z_len_str, ↓z_load1, ↓z_fa, ↓z_fa_ref, ↓z_callF, ↓z_andK, ↓z_orK, ↓z_and1, ↓z_and2, ↓z_and3, ↓z_and4, ↓z_and5, ↓z_and6, ↓z_and7, ↓z_and8, ↓z_and9, ↓z_and10, ↓z_and11, ↓z_and12, ↓z_or1, ↓z_or2, ↓z_or3, ↓z_or4, ↓z_or5, ↓z_or6, ↓z_or7, ↓z_or8, ↓z_or9, ↓z_or10, ↓z_or11, ↓z_or12, ↓z_add, ↓z_sub, ↓z_mul, ↓z_eql, ↓z_neq, ↓z_lss, ↓z_leq, ↓z_gtr, ↓z_geq, ↓z_not, ↓z_neg, ↓z_fin_int, ↓z_fin_bool, ↓z_fin_str, ↓z_ent_int, ↓z_ent_bool, ↓z_ent_str, ↓z_stn, ↓z_ldnn, ↓z_ldn0, ↓z_ldn1, ↓z_ldn2, ↓z_ldn3, ↓z_ldn4, ↓z_ldn5, ↓z_ldn6, ↓z_ldn7, ↓z_ldn8, List.drop_zero, List.drop_succ_cons, List.cons_append, List.nil_append, decide_eq_true_eq, decide_eq_false_iff_not, ite_not, ↓reduceIte, pub_agg, pub_int, pub_bool, pub_str, pub_fn, pub_vptr, pub_nilp, Nat.zero_add, List.length_cons, List.length_nil, Nat.reduceAdd, List.all_cons, List.all_nil, isCell_int, isCell_bool, isCell_str, isCell_sl, Bool.and_self, ↓z_loadn, Nat.reduceLeDiff, Nat.le_refl, List.take_succ_cons, List.take_zero, z_call0 (f8_ok' G X _ _ _ _), mulI]
theorem f27_ok (m b i a : Int) (s : St) : callω T1 G X 27 [.agg (rcs m b), I i, I a] s = .ok (I (rootI m b i a)) s := by
  rw [f27_call, f27_eq]
  have hr : AV.reflessL [.agg (rcs m b), I b] = true := rfl
  have hr2 : ∀ q, AV.reflessL [.agg (rcs m b), I q, I a] = true := fun _ => rfl
  have hr3 : ∀ q, AV.reflessL [.agg (rcs m b), I q] = true := fun _ => rfl
  simp -implicitDefEqProofs only [rcs] at hr hr2 hr3
  have h8 := fun n => f8_ok' G X m b n { own := [], up := [], ro := [] }
  have h25 := fun x y => f25_ok G X m b x y { own := [], up := [], ro := [] }
  simp -implicitDefEqProofs only [rcs] at h8 h25
  have hi : ¬ (0 ≤ i ∧ i < 0) := by omega
  by_cases h0 : 0 ≤ i
  · have h1 : ¬ i < 0 := by omega
    simp -implicitDefEqProofs only [rcs, ↓z_ret, ↓z_val, ↓z_pick, ↓z_cond, ↓z_boxRo_agg, ↓z_boxRo_int, ↓z_boxRo_bool, ↓z_boxRo_str, ↓z_boxRo_sl, ↓z_boxRo_fn, ↓z_boxRo_vptr, ↓z_boxRo_ref, ↓z_len_sl, ↓z_len_msl, ↓z_len_str, ↓z_load1, ↓z_fa, ↓z_fa_ref, ↓z_callF, ↓z_andK, ↓z_orK, ↓z_and1, ↓z_and2, ↓z_and3, ↓z_and4, ↓z_and5, ↓z_and6, ↓z_and7, ↓z_and8, ↓z_and9, ↓z_and10, ↓z_and11, ↓z_and12, ↓z_or1, ↓z_or2, ↓z_or3, ↓z_or4, ↓z_or5, ↓z_or6, ↓z_or7, ↓z_or8, ↓z_or9, ↓z_or10, ↓z_or11, ↓z_or12, ↓z_add, ↓z_sub, ↓z_mul, ↓z_eql, ↓z_neq, ↓z_lss, ↓z_leq, ↓z_gtr, ↓z_geq, ↓z_not, ↓z_neg, ↓z_fin_int, ↓z_fin_bool, ↓z_fin_str, ↓z_ent_int, ↓z_ent_bool, ↓z_ent_str, ↓z_stn, ↓z_ldnn, ↓z_ldn0, ↓z_ldn1, ↓z_ldn2, ↓z_ldn3, ↓z_ldn4, ↓z_ldn5, ↓z_ldn6, ↓z_ldn7, ↓z_ldn8, List.drop_zero, List.drop_succ_cons, List.cons_append, List.nil_append, decide_eq_true_eq, decide_eq_false_iff_not, ite_not, ↓reduceIte, pub_agg, pub_int, pub_bool, pub_str, pub_fn, pub_vptr, pub_nilp, Nat.zero_add, List.length_cons, List.length_nil, Nat.reduceAdd, List.all_cons, List.all_nil, isCell_int, isCell_bool, isCell_str, isCell_sl, Bool.and_self, ↓z_loadn, Nat.reduceLeDiff, Nat.le_refl, List.take_succ_cons, List.take_zero, eq_true h0, eq_false h1, decide_true, decide_false, Bool.false_eq_true, Int.natCast_zero, f27_j1_eq _ (PP_ok _ _ _), z_callP (hr3 _) (h8 _) rfl, z_callP (hr2 _) (h25 _ _) rfl, z_call0 (f21_ok G X _ _ _ _ _), rootI]
  · simp -implicitDefEqProofs only [rcs, ↓z_ret, ↓z_val, ↓z_pick, ↓z_cond, ↓z_boxRo_agg, ↓z_boxRo_int, ↓z_boxRo_bool, ↓z_boxRo_str, ↓z_boxRo_sl, ↓z_boxRo_fn, ↓z_boxRo_vptr, ↓z_boxRo_ref, ↓z_len_sl, ↓z_len_msl, ↓z_len_str, ↓z_load1, ↓z_fa, ↓z_fa_ref, ↓z_callF, ↓z_andK, ↓z_orK, ↓z_and1, ↓z_and2, ↓z_and3, ↓z_and4, ↓z_and5, ↓z_and6, ↓z_and7, ↓z_and8, ↓z_and9, ↓z_and10, ↓z_and11, ↓z_and12, ↓z_or1, ↓z_or2, ↓z_or3, ↓z_or4, ↓z_or5, ↓z_or6, ↓z_or7, ↓z_or8, ↓z_or9, ↓z_or10, ↓z_or11, ↓z_or12, ↓z_add, ↓z_sub, ↓z_mul, ↓z_eql, ↓z_neq, ↓z_lss, ↓z_leq, ↓z_gtr, ↓z_geq, ↓z_not, ↓z_neg, ↓z_fin_int, ↓z_fin_bool, ↓z_fin_str, ↓z_ent_int, ↓z_ent_bool, ↓z_ent_str, ↓z_stn, ↓z_ldnn, ↓z_ldn0, ↓z_ldn1, ↓z_ldn2, ↓z_ldn3, ↓z_ldn4, ↓z_ldn5, ↓z_ldn6, ↓z_ldn7, ↓z_ldn8, List.drop_zero, List.drop_succ_cons, List.cons_append, List.nil_append, decide_eq_true_eq, decide_eq_false_iff_not, ite_not, ↓reduceIte, pub_agg, pub_int, pub_bool, pub_str, pub_fn, pub_vptr, pub_nilp, Nat.zero_add, List.length_cons, List.length_nil, Nat.reduceAdd, List.all_cons, List.all_nil, isCell_int, isCell_bool, isCell_str, isCell_sl, Bool.and_self, ↓z_loadn, Nat.reduceLeDiff, Nat.le_refl, List.take_succ_cons, List.take_zero, eq_false h0, decide_true, decide_false, Bool.false_eq_true, f27_j1_eq _ (PP_ok _ _ _), z_callP (hr3 _) (h8 _) rfl, z_callP (hr2 _) (h25 _ _) rfl, z_call0 (f21_ok G X _ _ _ _ _), rootI]
theorem f19_ok (m b n : Int) (s : St) : callω T1 G X 19 [I n, .vptr (rcs m b)] s = .ok (I (redI m n)) s := by
  rw [f19_call, f19_eq]
  simp -implicitDefEqProofs only [rcs, ↓z_ret, ↓z_val, ↓z_pick, ↓z_cond, ↓z_boxRo_agg, ↓z_boxRo_int, ↓z_boxRo_bool, ↓z_boxRo_str, ↓z_boxRo_sl, ↓z_boxRo_fn, ↓z_boxRo_vptr, ↓z_boxRo_ref, ↓z_len_sl, ↓z_len_msl, ↓z_len_str, ↓z_load1, ↓z_fa, ↓z_fa_ref, ↓z_callF, ↓z_andK, ↓z_orK, ↓z_and1, ↓z_and2, ↓z_and3, ↓z_and4, ↓z_and5, ↓z_and6, ↓z_and7, ↓z_and8, ↓z_and9, ↓z_and10, ↓z_and11, ↓z_and12, ↓z_or1, ↓z_or2, ↓z_or3, ↓z_or4, ↓z_or5, ↓z_or6, ↓z_or7, ↓z_or8, ↓z_or9, ↓z_or10, ↓z_or11, ↓z_or12, ↓z_add, ↓z_sub, ↓z_mul, ↓z_eql, ↓z_neq, ↓z_lss, ↓z_leq, ↓z_gtr, ↓z_geq, ↓z_not, ↓z_neg, ↓z_fin_int, ↓z_fin_bool, ↓z_fin_str, ↓z_ent_int, ↓z_ent_bool, ↓z_ent_str, ↓z_stn, ↓z_ldnn, ↓z_ldn0, ↓z_ldn1, ↓z_ldn2, ↓z_ldn3, ↓z_ldn4, ↓z_ldn5, ↓z_ldn6, ↓z_ldn7, ↓z_ldn8, List.drop_zero, List.drop_succ_cons, List.cons_append, List.nil_append, decide_eq_true_eq, decide_eq_false_iff_not, ite_not, ↓reduceIte, pub_agg, pub_int, pub_bool, pub_str, pub_fn, pub_vptr, pub_nilp, Nat.zero_add, List.length_cons, List.length_nil, Nat.reduceAdd, List.all_cons, List.all_nil, isCell_int, isCell_bool, isCell_str, isCell_sl, Bool.and_self, ↓z_loadn, Nat.reduceLeDiff, Nat.le_refl, List.take_succ_cons, List.take_zero, z_call0 (f8_ok' G X _ _ _ _)]
theorem f20_ok (m b x y : Int) (s : St) : callω T1 G X 20 [I x, I y, .vptr (rcs m b)] s = .ok (I (addI m x y)) s := by
  rw [f20_call, f20_eq]
  simp -implicitDefEqProofs only [rcs, ↓z_ret, ↓z_val, ↓z_pick, ↓z_cond, ↓z_boxRo_agg, ↓z_boxRo_int, ↓z_boxRo_bool, ↓z_boxRo_str, ↓z_boxRo_sl, ↓z_boxRo_fn, ↓z_boxRo_vptr, ↓z_boxRo_ref, ↓z_len_sl, ↓z_len_msl, ↓z_len_str, ↓z_load1, ↓z_fa, ↓z_fa_ref, ↓z_callF, ↓z_andK, ↓z_orK, ↓z_and1, ↓z_and2, ↓z_and3, ↓z_and4, ↓z_and5, ↓z_and6, ↓z_and7, ↓z_and8, ↓z_and9, ↓z_and10, ↓z_and11, ↓z_and12, ↓z_or1, ↓z_or2, ↓z_or3, ↓z_or4, ↓z_or5, ↓z_or6, ↓z_or7, ↓z_or8, ↓z_or9, ↓z_or10, ↓z_or11, ↓z_or12, ↓z_add, ↓z_sub, ↓z_mul, ↓z_eql, ↓z_neq, ↓z_lss, ↓z_leq, ↓z_gtr, ↓z_geq, ↓z_not, ↓z_neg, ↓z_fin_int, ↓z_fin_bool, ↓z_fin_str, ↓z_ent_int, ↓z_ent_bool, ↓z_ent_str, ↓z_stn, ↓z_ldnn, ↓z_ldn0, ↓z_ldn1, ↓z_ldn2, ↓z_ldn3, ↓z_ldn4, ↓z_ldn5, ↓z_ldn6, ↓z_ldn7, ↓z_ldn8, List.drop_zero, List.drop_succ_cons, List.cons_append, List.nil_append, decide_eq_true_eq, decide_eq_false_iff_not, ite_not, ↓reduceIte, pub_agg, pub_int, pub_bool, pub_str, pub_fn, pub_vptr, pub_nilp, Nat.zero_add, List.length_cons, List.length_nil, Nat.reduceAdd, List.all_cons, List.all_nil, isCell_int, isCell_bool, isCell_str, isCell_sl, Bool.and_self, ↓z_loadn, Nat.reduceLeDiff, Nat.le_refl, List.take_succ_cons, List.take_zero, z_call0 (f21_ok G X _ _ _ _ _)]
theorem f22_ok (m b x y : Int) (s : St) : callω T1 G X 22 [I x, I y, .vptr (rcs m b)] s = .ok (I (subI m x y)) s := by
  rw [f22_call, f22_eq]
  simp -implicitDefEqProofs only [rcs, ↓z_ret, ↓z_val, ↓z_pick, ↓z_cond, ↓z_boxRo_agg, ↓z_boxRo_int, ↓z_boxRo_bool, ↓z_boxRo_str, ↓z_boxRo_sl, ↓z_boxRo_fn, ↓z_boxRo_vptr, ↓z_boxRo_ref, ↓z_len_sl, ↓z_len_msl, ↓z_len_str, ↓z_load1, ↓z_fa, ↓z_fa_ref, ↓z_callF, ↓z_andK, ↓z_orK, ↓z_and1, ↓z_and2, ↓z_and3, ↓z_and4, ↓z_and5, ↓z_and6, ↓z_and7, ↓z_and8, ↓z_and9, ↓z_and10, ↓z_and11, ↓z_and12, ↓z_or1, ↓z_or2, ↓z_or3, ↓z_or4, ↓z_or5, ↓z_or6, ↓z_or7, ↓z_or8, ↓z_or9, ↓z_or10, ↓z_or11, ↓z_or12, ↓z_add, ↓z_sub, ↓z_mul, ↓z_eql, ↓z_neq, ↓z_lss, ↓z_leq, ↓z_gtr, ↓z_geq, ↓z_not, ↓z_neg, ↓z_fin_int, ↓z_fin_bool, ↓z_fin_str, ↓z_ent_int, ↓z_ent_bool, ↓z_ent_str, ↓z_stn, ↓z_ldnn, ↓z_ldn0, ↓z_ldn1, ↓z_ldn2, ↓z_ldn3, ↓z_ldn4, ↓z_ldn5, ↓z_ldn6, ↓z_ldn7, ↓z_ldn8, List.drop_zero, List.drop_succ_cons, List.cons_append, List.nil_append, decide_eq_true_eq, decide_eq_false_iff_not, ite_not, ↓reduceIte, pub_agg, pub_int, pub_bool, pub_str, pub_fn, pub_vptr, pub_nilp, Nat.zero_add, List.length_cons, List.length_nil, Nat.reduceAdd, List.all_cons, List.all_nil, isCell_int, isCell_bool, isCell_str, isCell_sl, Bool.and_self, ↓z_loadn, Nat.reduceLeDiff, Nat.le_refl, List.take_succ_cons, List.take_zero, z_call0 (f23_ok G X _ _ _ _ _)]
theorem f24_ok (m b x y : Int) (s : St) : callω T1 G X 24 [I x, I y, .vptr (rcs m b)] s = .ok (I (mulI m x y)) s := by
  rw [f24_call, f24_eq]
  simp -implicitDefEqProofs only [rcs, ↓z_ret, ↓z_val, ↓z_pick, ↓z_cond, ↓z_boxRo_agg, ↓z_boxRo_int, ↓z_boxRo_bool, ↓z_boxRo_str, ↓z_boxRo_sl, ↓z_boxRo_fn, ↓z_boxRo_vptr, ↓z_boxRo_ref, ↓z_len_sl, ↓z_len_msl, ↓z_len_str, ↓z_load1, ↓z_fa, ↓z_fa_ref, ↓z_callF, ↓z_andK, ↓z_orK, ↓z_and1, ↓z_and2, ↓z_and3, ↓z_and4, ↓z_and5, ↓z_and6, ↓z_and7, ↓z_and8, ↓z_and9, ↓z_and10, ↓z_and11, ↓z_and12, ↓z_or1, ↓z_or2, ↓z_or3, ↓z_or4, ↓z_or5, ↓z_or6, ↓z_or7, ↓z_or8, ↓z_or9, ↓z_or10, ↓z_or11, ↓z_or12, ↓z_add, ↓z_sub, ↓z_mul, ↓z_eql, ↓z_neq, ↓z_lss, ↓z_leq, ↓z_gtr, ↓z_geq, ↓z_not, ↓z_neg, ↓z_fin_int, ↓z_fin_bool, ↓z_fin_str, ↓z_ent_int, ↓z_ent_bool, ↓z_ent_str, ↓z_stn, ↓z_ldnn, ↓z_ldn0, ↓z_ldn1, ↓z_ldn2, ↓z_ldn3, ↓z_ldn4, ↓z_ldn5, ↓z_ldn6, ↓z_ldn7, ↓z_ldn8, List.drop_zero, List.drop_succ_cons, List.cons_append, List.nil_append, decide_eq_true_eq, decide_eq_false_iff_not, ite_not, ↓reduceIte, pub_agg, pub_int, pub_bool, pub_str, pub_fn, pub_vptr, pub_nilp, Nat.zero_add, List.length_cons, List.length_nil, Nat.reduceAdd, List.all_cons, List.all_nil, isCell_int, isCell_bool, isCell_str, isCell_sl, Bool.and_self, ↓z_loadn, Nat.reduceLeDiff, Nat.le_refl, List.take_succ_cons, List.take_zero, z_call0 (f25_ok G X _ _ _ _ _)]
theorem f26_ok (m b x y : Int) (s : St) : callω T1 G X 26 [I x, I y, .vptr (rcs m b)] s = .ok (I (rootI m b x y)) s := by
  rw [f26_call, f26_eq]
  simp -implicitDefEqProofs only [rcs, ↓z_ret, ↓z_val, ↓z_pick, ↓z_cond, ↓z_boxRo_agg, ↓z_boxRo_int, ↓z_boxRo_bool, ↓z_boxRo_str, ↓z_boxRo_sl, ↓z_boxRo_fn, ↓z_boxRo_vptr, ↓z_boxRo_ref, ↓z_len_sl, ↓z_len_msl, ↓z_len_str, ↓z_load1, ↓z_fa, ↓z_fa_ref, ↓z_callF, ↓z_andK, ↓z_orK, ↓z_and1, ↓z_and2, ↓z_and3, ↓z_and4, ↓z_and5, ↓z_and6, ↓z_and7, ↓z_and8, ↓z_and9, ↓z_and10, ↓z_and11, ↓z_and12, ↓z_or1, ↓z_or2, ↓z_or3, ↓z_or4, ↓z_or5, ↓z_or6, ↓z_or7, ↓z_or8, ↓z_or9, ↓z_or10, ↓z_or11, ↓z_or12, ↓z_add, ↓z_sub, ↓z_mul, ↓z_eql, ↓z_neq, ↓z_lss, ↓z_leq, ↓z_gtr, ↓z_geq, ↓z_not, ↓z_neg, ↓z_fin_int, ↓z_fin_bool, ↓z_fin_str, ↓z_ent_int, ↓z_ent_bool, ↓z_ent_str, ↓z_stn, ↓z_ldnn, ↓z_ldn0, ↓z_ldn1, ↓z_ldn2, ↓z_ldn3, ↓z_ldn4, ↓z_ldn5, ↓z_ldn6, ↓z_ldn7, ↓z_ldn8, List.drop_zero, List.drop_succ_cons, List.cons_append, List.nil_append, decide_eq_true_eq, decide_eq_false_iff_not, ite_not, ↓reduceIte, pub_agg, pub_int, pub_bool, pub_str, pub_fn, pub_vptr, pub_nilp, Nat.zero_add, List.length_cons, List.length_nil, Nat.reduceAdd, List.all_cons, List.all_nil, isCell_int, isCell_bool, isCell_str, isCell_sl, Bool.and_self, ↓z_loadn, Nat.reduceLeDiff, Nat.le_refl, List.take_succ_cons, List.take_zero, z_call0 (f27_ok G X _ _ _ _ _)]
def ringCs (m b : Int) : List AV := [.fn 19 [.vptr (rcs m b)], .fn 20 [.vptr (rcs m b)], .fn 22 [.vptr (rcs m b)], .fn 24 [.vptr (rcs m b)], .fn 26 [.vptr (rcs m b)]]
theorem f10_ok (m b : Int) : callω T1 G X 10 [.agg (rcs m b)] { own := [], up := [], ro := [] } = .ok (.agg (ringCs m b)) { own := [], up := [], ro := [] } := by
  rw [f10_call, f10_eq]
  rfl
end Go.AbD
end
section
namespace Go.AbD
open Go.Ab
variable (G : Nat → AV) (X : Nat → List AV → St → Res)
set_option linter.unusedSimpArgs false
set_option linter.unusedVariables false
/-- A frame's state over another caller's state. -/
def reup (S s : St) : St := { own := S.own, up := s.own :: s.up, ro := s.ro }
theorem reup_child (S s : St) : Child s (reup S s) := ⟨rfl, rfl⟩
theorem reup_own (S s : St) : (reup S s).own = S.own := rfl
theorem reup_self {s S : St} (h : Child s S) : reup S s = S := by
  obtain ⟨h1, h2⟩ := h
  cases S
  simp -implicitDefEqProofs only at h1 h2
  simp -implicitDefEqProofs only [reup, h1, h2]
/-- Five functions that are a ring, and what calling them leaves in the frames behind. -/
structure RingOK (R : Ops) (σ : List Int → St) (fc fa fs fm fr : AV) : Prop where
  c : ∀ l n S (k : K1), Child (σ l) S → (PP T1 G X).callF S k fc [I n] = k (I (R.c n)) (reup S (σ (l ++ [2])))
  add : ∀ l x y S (k : K1), Child (σ l) S → (PP T1 G X).callF S k fa [I x, I y] = k (I (R.add x y)) (reup S (σ (l ++ [3])))
  sub : ∀ l x y S (k : K1), Child (σ l) S → (PP T1 G X).callF S k fs [I x, I y] = k (I (R.sub x y)) (reup S (σ (l ++ [4])))
  mul : ∀ l x y S (k : K1), Child (σ l) S → (PP T1 G X).callF S k fm [I x, I y] = k (I (R.mul x y)) (reup S (σ (l ++ [5])))
  root : ∀ l x y S (k : K1), Child (σ l) S → (PP T1 G X).callF S k fr [I x, I y] = k (I (R.root x y)) (reup S (σ (l ++ [6])))
/-- A slice of numbers that is read. -/
structure InOK (σ : List Int → St) (v : AV) (inp : List Int) : Prop where
  len : ∀ l S (k : K1), Child (σ l) S → (PP T1 G X).len S k false v = k (I inp.length) S
  get : ∀ l (a : Int) S (k : K1), Child (σ l) S → 0 ≤ a → a < inp.length → (PP T1 G X).idx S (fun v S => (PP T1 G X).load S k none v) 1 v (.int .i64 a) = k (I (inp.getD a.toNat 0)) S
theorem inOK_sl (σ : List Int → St) (inp : List Int) (g : Gr) : InOK G X σ (sl1 inp g) inp where
  len := fun l S k _ => by simp -implicitDefEqProofs only [sl1, ↓z_ret, ↓z_val, ↓z_pick, ↓z_cond, ↓z_boxRo_agg, ↓z_boxRo_int, ↓z_boxRo_bool, ↓z_boxRo_str, ↓z_boxRo_sl, ↓z_boxRo_fn, ↓z_boxRo_vptr, ↓z_boxRo_ref, ↓z_len_sl, ↓z_len_msl, ↓z_len_str, ↓z_load1, ↓z_fa, ↓z_fa_ref, ↓z_callF, ↓z_andK, ↓z_orK, ↓z_and1, ↓z_and2, ↓z_and3, ↓z_and4, ↓z_and5, ↓z_and6, ↓z_and7, ↓z_and8, ↓z_and9, ↓z_and10, ↓z_and11, ↓z_and12, ↓z_or1, ↓z_or2, ↓z_or3, ↓z_or4, ↓z_or5, ↓z_or6, ↓z_or7, ↓z_or8, ↓z_or9, ↓z_or10, ↓z_or11, ↓z_or12, ↓z_add, ↓z_sub, ↓z_mul, ↓z_eql, ↓z_neq, ↓z_lss, ↓z_leq, ↓z_gtr, ↓z_geq, ↓z_not, ↓z_neg, ↓z_fin_int, ↓z_fin_bool, ↓z_fin_str, ↓z_ent_int, ↓z_ent_bool, ↓z_ent_str, ↓z_stn, ↓z_ldnn, ↓z_ldn0, ↓z_ldn1, ↓z_ldn2, ↓z_ldn3, ↓z_ldn4, ↓z_ldn5, ↓z_ldn6, ↓z_ldn7, ↓z_ldn8, List.drop_zero, List.drop_succ_cons, List.cons_append, List.nil_append, decide_eq_true_eq, decide_eq_false_iff_not, ite_not, ↓reduceIte, pub_agg, pub_int, pub_bool, pub_str, pub_fn, pub_vptr, pub_nilp, Nat.zero_add, List.length_cons, List.length_nil, Nat.reduceAdd, List.all_cons, List.all_nil, isCell_int, isCell_bool, isCell_str, isCell_sl, Bool.and_self, ↓z_loadn, Nat.reduceLeDiff, Nat.le_refl, List.take_succ_cons, List.take_zero, List.length_map]
  get := fun l a S k _ h0 h1 => by
    rw [sl1, idx_out G X inp g a h0 h1]
    simp -implicitDefEqProofs only [↓z_ret, ↓z_val, ↓z_pick, ↓z_cond, ↓z_boxRo_agg, ↓z_boxRo_int, ↓z_boxRo_bool, ↓z_boxRo_str, ↓z_boxRo_sl, ↓z_boxRo_fn, ↓z_boxRo_vptr, ↓z_boxRo_ref, ↓z_len_sl, ↓z_len_msl, ↓z_len_str, ↓z_load1, ↓z_fa, ↓z_fa_ref, ↓z_callF, ↓z_andK, ↓z_orK, ↓z_and1, ↓z_and2, ↓z_and3, ↓z_and4, ↓z_and5, ↓z_and6, ↓z_and7, ↓z_and8, ↓z_and9, ↓z_and10, ↓z_and11, ↓z_and12, ↓z_or1, ↓z_or2, ↓z_or3, ↓z_or4, ↓z_or5, ↓z_or6, ↓z_or7, ↓z_or8, ↓z_or9, ↓z_or10, ↓z_or11, ↓z_or12, ↓z_add, ↓z_sub, ↓z_mul, ↓z_eql, ↓z_neq, ↓z_lss, ↓z_leq, ↓z_gtr, ↓z_geq, ↓z_not, ↓z_neg, ↓z_fin_int, ↓z_fin_bool, ↓z_fin_str, ↓z_ent_int, ↓z_ent_bool, ↓z_ent_str, ↓z_stn, ↓z_ldnn, ↓z_ldn0, ↓z_ldn1, ↓z_ldn2, ↓z_ldn3, ↓z_ldn4, ↓z_ldn5, ↓z_ldn6, ↓z_ldn7, ↓z_ldn8, List.drop_zero, List.drop_succ_cons, List.cons_append, List.nil_append, decide_eq_true_eq, decide_eq_false_iff_not, ite_not, ↓reduceIte, pub_agg, pub_int, pub_bool, pub_str, pub_fn, pub_vptr, pub_nilp, Nat.zero_add, List.length_cons, List.length_nil, Nat.reduceAdd, List.all_cons, List.all_nil, isCell_int, isCell_bool, isCell_str, isCell_sl, Bool.and_self, ↓z_loadn, Nat.reduceLeDiff, Nat.le_refl, List.take_succ_cons, List.take_zero]
theorem inOK_own (s : St) (j : Nat) (inp : List Int) (n : Nat) (hn : n = inp.length) (h : s.own[j]? = some (.cells (inp.map I))) : InOK G X (fun _ => s) (.msl (.g s.depth j) 0 n n 1) inp where
  len := fun l S k _ => by subst hn; rfl
  get := fun l a S k hS h0 h1 => by
    subst hn
    obtain ⟨b, rfl⟩ := Int.eq_ofNat_of_zero_le h0
    have hb : b < inp.length := by omega
    rw [z_idx_msl (.g s.depth j) 0 inp.length inp.length 1 .i64 b hb, zz_load]
    have hd : S.depth = s.depth + 1 := by simp [St.depth, hS.up, hS.ro]; omega
    have hg : S.get (.g s.depth j) = some (.cells (inp.map I)) := by
      simp -implicitDefEqProofs only [St.get, hd]
      rw [if_neg (by omega), if_pos (by omega)]
      simp [hS.up, h]
    simp -implicitDefEqProofs only [loadOp, hg, loadV]
    have e : (inp.map I).drop (0 + b * 1) = I inp[b] :: (inp.map I).drop (b + 1) := by
      rw [Nat.zero_add, Nat.mul_one, List.drop_eq_getElem_cons (by simpa using hb)]
      simp
    rw [e]
    have e2 : inp.getD (Int.toNat (b : Int)) 0 = inp[b] := by simp [List.getD, hb]
    rw [e2]
    rfl
/-- The calls of an instruction, and of a program. -/
def log1 (x : Ins) : List Int := if x.op = 1 then [] else [x.op]
def logs : List Ins → List Int
  | [] => []
  | x :: xs => log1 x ++ logs xs
theorem log1_op {x : Ins} {n : Int} (h : x.op = n) (hn : n ≠ 1) : log1 x = [n] := by unfold log1; rw [h, if_neg hn]
section
variable {R : Ops} {σ : List Int → St} {fc fa fs fm fr : AV} (hR : RingOK G X R σ fc fa fs fm fr)
include hR
theorem f9_j4_ok (inp : List Int) (vi : AV) (hI : InOK G X σ vi inp) (v29 v30 : AV) (ins : List AV) (gs : Gr) (x : Ins) (out : List Int) (nr j n : Nat) (l : List Int) (S : St) (hS : Child (σ l) S) (hg : S.own[j]? = some (.cells (full out n))) (Res0 : Res)
    (hnr : nr < 9000) (hv : v29 = .sl 3 ins gs) (hx : ins[out.length]? = some x.enc) (hok : okIns x out.length inp.length = true)
    (hk : ∀ S', Child (σ (l ++ log1 x)) S' → S'.own = (S.new (.cells [I x.op, I x.a, I x.b])).own → f9_j5 (PP T1 G X) vi (.vptr [fc, fa, fs, fm, fr]) (.msl (.l j) 0 out.length n 1) (I (nextR x nr : Nat)) (I (valR R inp out nr x)) v29 v30 (.int .i64 (out.length : Int)) S' = Res0) :
    f9_j4 (PP T1 G X) vi (.vptr [fc, fa, fs, fm, fr]) (.msl (.l j) 0 out.length n 1) (.int .i64 (nr : Int)) v29 v30 (.int .i64 (out.length : Int)) S = Res0 := by
  subst hv
  rw [f9_j4_eq _ (PP_ok _ _ _)]
  have hg' := own_new hg (.cells [I x.op, I x.a, I x.b])
  have hS' := hS.new (.cells [I x.op, I x.a, I x.b])
  have hop := okIns_op hok
  unfold okIns at hok
  by_cases h1 : x.op = 1
  · have q1 := eq_true h1
    simp -implicitDefEqProofs only [q1, ↓reduceIte, decide_eq_true_eq] at hok
    have hk0 := hk (S.new (.cells [I x.op, I x.a, I x.b])) (by simpa only [log1, q1, if_true, List.append_nil] using hS') rfl
    have e6 : ¬ x.op = 6 := by omega
    simp -implicitDefEqProofs only [nextR, eq_false e6, valR, q1, if_true, if_false] at hk0
    simp -implicitDefEqProofs only [↓z_ret, ↓z_val, ↓z_pick, ↓z_cond, ↓z_boxRo_agg, ↓z_boxRo_int, ↓z_boxRo_bool, ↓z_boxRo_str, ↓z_boxRo_sl, ↓z_boxRo_fn, ↓z_boxRo_vptr, ↓z_boxRo_ref, ↓z_len_sl, ↓z_len_msl, ↓z_len_str, ↓z_load1, ↓z_fa, ↓z_fa_ref, ↓z_callF, ↓z_andK, ↓z_orK, ↓z_and1, ↓z_and2, ↓z_and3, ↓z_and4, ↓z_and5, ↓z_and6, ↓z_and7, ↓z_and8, ↓z_and9, ↓z_and10, ↓z_and11, ↓z_and12, ↓z_or1, ↓z_or2, ↓z_or3, ↓z_or4, ↓z_or5, ↓z_or6, ↓z_or7, ↓z_or8, ↓z_or9, ↓z_or10, ↓z_or11, ↓z_or12, ↓z_add, ↓z_sub, ↓z_mul, ↓z_eql, ↓z_neq, ↓z_lss, ↓z_leq, ↓z_gtr, ↓z_geq, ↓z_not, ↓z_neg, ↓z_fin_int, ↓z_fin_bool, ↓z_fin_str, ↓z_ent_int, ↓z_ent_bool, ↓z_ent_str, ↓z_stn, ↓z_ldnn, ↓z_ldn0, ↓z_ldn1, ↓z_ldn2, ↓z_ldn3, ↓z_ldn4, ↓z_ldn5, ↓z_ldn6, ↓z_ldn7, ↓z_ldn8, List.drop_zero, List.drop_succ_cons, List.cons_append, List.nil_append, decide_eq_true_eq, decide_eq_false_iff_not, ite_not, ↓reduceIte, pub_agg, pub_int, pub_bool, pub_str, pub_fn, pub_vptr, pub_nilp, Nat.zero_add, List.length_cons, List.length_nil, Nat.reduceAdd, List.all_cons, List.all_nil, isCell_int, isCell_bool, isCell_str, isCell_sl, Bool.and_self, ↓z_loadn, Nat.reduceLeDiff, Nat.le_refl, List.take_succ_cons, List.take_zero, z_idx _ _ _ _ _ _ hx, Ins.enc, Ins.cs, AV.cells, q1, decide_true, hI.get l _ _ _ hS' hok.1 hok.2.1]
    exact hk0
  have q1 := eq_false h1
  by_cases h2 : x.op = 2
  · have q2 := eq_true h2
    have hk0 := hk (reup (S.new (.cells [I x.op, I x.a, I x.b])) (σ (l ++ [2]))) (by rw [log1_op h2 (by omega)]; exact reup_child _ _) rfl
    have e6 : ¬ x.op = 6 := by omega
    simp -implicitDefEqProofs only [nextR, eq_false e6, valR, q1, q2, if_true, if_false] at hk0
    simp -implicitDefEqProofs only [↓z_ret, ↓z_val, ↓z_pick, ↓z_cond, ↓z_boxRo_agg, ↓z_boxRo_int, ↓z_boxRo_bool, ↓z_boxRo_str, ↓z_boxRo_sl, ↓z_boxRo_fn, ↓z_boxRo_vptr, ↓z_boxRo_ref, ↓z_len_sl, ↓z_len_msl, ↓z_len_str, ↓z_load1, ↓z_fa, ↓z_fa_ref, ↓z_callF, ↓z_andK, ↓z_orK, ↓z_and1, ↓z_and2, ↓z_and3, ↓z_and4, ↓z_and5, ↓z_and6, ↓z_and7, ↓z_and8, ↓z_and9, ↓z_and10, ↓z_and11, ↓z_and12, ↓z_or1, ↓z_or2, ↓z_or3, ↓z_or4, ↓z_or5, ↓z_or6, ↓z_or7, ↓z_or8, ↓z_or9, ↓z_or10, ↓z_or11, ↓z_or12, ↓z_add, ↓z_sub, ↓z_mul, ↓z_eql, ↓z_neq, ↓z_lss, ↓z_leq, ↓z_gtr, ↓z_geq, ↓z_not, ↓z_neg, ↓z_fin_int, ↓z_fin_bool, ↓z_fin_str, ↓z_ent_int, ↓z_ent_bool, ↓z_ent_str, ↓z_stn, ↓z_ldnn, ↓z_ldn0, ↓z_ldn1, ↓z_ldn2, ↓z_ldn3, ↓z_ldn4, ↓z_ldn5, ↓z_ldn6, ↓z_ldn7, ↓z_ldn8, List.drop_zero, List.drop_succ_cons, List.cons_append, List.nil_append, decide_eq_true_eq, decide_eq_false_iff_not, ite_not, ↓reduceIte, pub_agg, pub_int, pub_bool, pub_str, pub_fn, pub_vptr, pub_nilp, Nat.zero_add, List.length_cons, List.length_nil, Nat.reduceAdd, List.all_cons, List.all_nil, isCell_int, isCell_bool, isCell_str, isCell_sl, Bool.and_self, ↓z_loadn, Nat.reduceLeDiff, Nat.le_refl, List.take_succ_cons, List.take_zero, z_idx _ _ _ _ _ _ hx, Ins.enc, Ins.cs, AV.cells, q1, q2, decide_true, decide_false, Bool.false_eq_true, hR.c l _ _ _ hS']
    exact hk0
  have q2 := eq_false h2
  by_cases h3 : x.op = 3
  · have q3 := eq_true h3
    have h3' : x.op = 3 ∨ x.op = 4 ∨ x.op = 5 := by omega
    simp -implicitDefEqProofs only [q1, q2, eq_true h3', ↓reduceIte, decide_eq_true_eq] at hok
    have la := fun k => ld_own G X out j n x.a.toNat (by omega) k _ hg'
    have lb := fun k => ld_own G X out j n x.b.toNat (by omega) k _ hg'
    simp -implicitDefEqProofs only [Nat.zero_add] at la lb
    have hk0 := hk (reup (S.new (.cells [I x.op, I x.a, I x.b])) (σ (l ++ [3]))) (by rw [log1_op h3 (by omega)]; exact reup_child _ _) rfl
    have e6 : ¬ x.op = 6 := by omega
    simp -implicitDefEqProofs only [nextR, eq_false e6, valR, q1, q2, q3, if_true, if_false] at hk0
    simp -implicitDefEqProofs only [↓z_ret, ↓z_val, ↓z_pick, ↓z_cond, ↓z_boxRo_agg, ↓z_boxRo_int, ↓z_boxRo_bool, ↓z_boxRo_str, ↓z_boxRo_sl, ↓z_boxRo_fn, ↓z_boxRo_vptr, ↓z_boxRo_ref, ↓z_len_sl, ↓z_len_msl, ↓z_len_str, ↓z_load1, ↓z_fa, ↓z_fa_ref, ↓z_callF, ↓z_andK, ↓z_orK, ↓z_and1, ↓z_and2, ↓z_and3, ↓z_and4, ↓z_and5, ↓z_and6, ↓z_and7, ↓z_and8, ↓z_and9, ↓z_and10, ↓z_and11, ↓z_and12, ↓z_or1, ↓z_or2, ↓z_or3, ↓z_or4, ↓z_or5, ↓z_or6, ↓z_or7, ↓z_or8, ↓z_or9, ↓z_or10, ↓z_or11, ↓z_or12, ↓z_add, ↓z_sub, ↓z_mul, ↓z_eql, ↓z_neq, ↓z_lss, ↓z_leq, ↓z_gtr, ↓z_geq, ↓z_not, ↓z_neg, ↓z_fin_int, ↓z_fin_bool, ↓z_fin_str, ↓z_ent_int, ↓z_ent_bool, ↓z_ent_str, ↓z_stn, ↓z_ldnn, ↓z_ldn0, ↓z_ldn1, ↓z_ldn2, ↓z_ldn3, ↓z_ldn4, ↓z_ldn5, ↓z_ldn6, ↓z_ldn7, ↓z_ldn8, List.drop_zero, List.drop_succ_cons, List.cons_append, List.nil_append, decide_eq_true_eq, decide_eq_false_iff_not, ite_not, ↓reduceIte, pub_agg, pub_int, pub_bool, pub_str, pub_fn, pub_vptr, pub_nilp, Nat.zero_add, List.length_cons, List.length_nil, Nat.reduceAdd, List.all_cons, List.all_nil, isCell_int, isCell_bool, isCell_str, isCell_sl, Bool.and_self, ↓z_loadn, Nat.reduceLeDiff, Nat.le_refl, List.take_succ_cons, List.take_zero, z_idx _ _ _ _ _ _ hx, Ins.enc, Ins.cs, AV.cells, q1, q2, q3, decide_true, decide_false, Bool.false_eq_true, idx_own G X _ _ _ _ hok.1.1 hok.1.2, idx_own G X _ _ _ _ hok.2.1 hok.2.2, ↓la, ↓lb, hR.add l _ _ _ _ hS']
    exact hk0
  have q3 := eq_false h3
  by_cases h4 : x.op = 4
  · have q4 := eq_true h4
    have h3' : x.op = 3 ∨ x.op = 4 ∨ x.op = 5 := by omega
    simp -implicitDefEqProofs only [q1, q2, eq_true h3', ↓reduceIte, decide_eq_true_eq] at hok
    have la := fun k => ld_own G X out j n x.a.toNat (by omega) k _ hg'
    have lb := fun k => ld_own G X out j n x.b.toNat (by omega) k _ hg'
    simp -implicitDefEqProofs only [Nat.zero_add] at la lb
    have hk0 := hk (reup (S.new (.cells [I x.op, I x.a, I x.b])) (σ (l ++ [4]))) (by rw [log1_op h4 (by omega)]; exact reup_child _ _) rfl
    have e6 : ¬ x.op = 6 := by omega
    simp -implicitDefEqProofs only [nextR, eq_false e6, valR, q1, q2, q3, q4, if_true, if_false] at hk0
    simp -implicitDefEqProofs only [↓z_ret, ↓z_val, ↓z_pick, ↓z_cond, ↓z_boxRo_agg, ↓z_boxRo_int, ↓z_boxRo_bool, ↓z_boxRo_str, ↓z_boxRo_sl, ↓z_boxRo_fn, ↓z_boxRo_vptr, ↓z_boxRo_ref, ↓z_len_sl, ↓z_len_msl, ↓z_len_str, ↓z_load1, ↓z_fa, ↓z_fa_ref, ↓z_callF, ↓z_andK, ↓z_orK, ↓z_and1, ↓z_and2, ↓z_and3, ↓z_and4, ↓z_and5, ↓z_and6, ↓z_and7, ↓z_and8, ↓z_and9, ↓z_and10, ↓z_and11, ↓z_and12, ↓z_or1, ↓z_or2, ↓z_or3, ↓z_or4, ↓z_or5, ↓z_or6, ↓z_or7, ↓z_or8, ↓z_or9, ↓z_or10, ↓z_or11, ↓z_or12, ↓z_add, ↓z_sub, ↓z_mul, ↓z_eql, ↓z_neq, ↓z_lss, ↓z_leq, ↓z_gtr, ↓z_geq, ↓z_not, ↓z_neg, ↓z_fin_int, ↓z_fin_bool, ↓z_fin_str, ↓z_ent_int, ↓z_ent_bool, ↓z_ent_str, ↓z_stn, ↓z_ldnn, ↓z_ldn0, ↓z_ldn1, ↓z_ldn2, ↓z_ldn3, ↓z_ldn4, ↓z_ldn5, ↓z_ldn6, ↓z_ldn7, ↓z_ldn8, List.drop_zero, List.drop_succ_cons, List.cons_append, List.nil_append, decide_eq_true_eq, decide_eq_false_iff_not, ite_not, ↓reduceIte, pub_agg, pub_int, pub_bool, pub_str, pub_fn, pub_vptr, pub_nilp, Nat.zero_add, List.length_cons, List.length_nil, Nat.reduceAdd, List.all_cons, List.all_nil, isCell_int, isCell_bool, isCell_str, isCell_sl, Bool.and_self, ↓z_loadn, Nat.reduceLeDiff, Nat.le_refl, List.take_succ_cons, List.take_zero, z_idx _ _ _ _ _ _ hx, Ins.enc, Ins.cs, AV.cells, q1, q2, q3, q4, decide_true, decide_false, Bool.false_eq_true, idx_own G X _ _ _ _ hok.1.1 hok.1.2, idx_own G X _ _ _ _ hok.2.1 hok.2.2, ↓la, ↓lb, hR.sub l _ _ _ _ hS']
    exact hk0
  have q4 := eq_false h4
  by_cases h5 : x.op = 5
  · have q5 := eq_true h5
    have h3' : x.op = 3 ∨ x.op = 4 ∨ x.op = 5 := by omega
    simp -implicitDefEqProofs only [q1, q2, eq_true h3', ↓reduceIte, decide_eq_true_eq] at hok
    have la := fun k => ld_own G X out j n x.a.toNat (by omega) k _ hg'
    have lb := fun k => ld_own G X out j n x.b.toNat (by omega) k _ hg'
    simp -implicitDefEqProofs only [Nat.zero_add] at la lb
    have hk0 := hk (reup (S.new (.cells [I x.op, I x.a, I x.b])) (σ (l ++ [5]))) (by rw [log1_op h5 (by omega)]; exact reup_child _ _) rfl
    have e6 : ¬ x.op = 6 := by omega
    simp -implicitDefEqProofs only [nextR, eq_false e6, valR, q1, q2, q3, q4, q5, if_true, if_false] at hk0
    simp -implicitDefEqProofs only [↓z_ret, ↓z_val, ↓z_pick, ↓z_cond, ↓z_boxRo_agg, ↓z_boxRo_int, ↓z_boxRo_bool, ↓z_boxRo_str, ↓z_boxRo_sl, ↓z_boxRo_fn, ↓z_boxRo_vptr, ↓z_boxRo_ref, ↓z_len_sl, ↓z_len_msl, ↓z_len_str, ↓z_load1, ↓z_fa, ↓z_fa_ref, ↓z_callF, ↓z_andK, ↓z_orK, ↓z_and1, ↓z_and2, ↓z_and3, ↓z_and4, ↓z_and5, ↓z_and6, ↓z_and7, ↓z_and8, ↓z_and9, ↓z_and10, ↓z_and11, ↓z_and12, ↓z_or1, ↓z_or2, ↓z_or3, ↓z_or4, ↓z_or5, ↓z_or6, ↓z_or7, ↓z_or8, ↓z_or9, ↓z_or10, ↓z_or11, ↓z_or12, ↓z_add, ↓z_sub, ↓z_mul, ↓z_eql, ↓z_neq, ↓z_lss, ↓z_leq, ↓z_gtr, ↓z_geq, ↓z_not, ↓z_neg, ↓z_fin_int, ↓z_fin_bool, ↓z_fin_str, ↓z_ent_int, ↓z_ent_bool, ↓z_ent_str, ↓z_stn, ↓z_ldnn, ↓z_ldn0, ↓z_ldn1, ↓z_ldn2, ↓z_ldn3, ↓z_ldn4, ↓z_ldn5, ↓z_ldn6, ↓z_ldn7, ↓z_ldn8, List.drop_zero, List.drop_succ_cons, List.cons_append, List.nil_append, decide_eq_true_eq, decide_eq_false_iff_not, ite_not, ↓reduceIte, pub_agg, pub_int, pub_bool, pub_str, pub_fn, pub_vptr, pub_nilp, Nat.zero_add, List.length_cons, List.length_nil, Nat.reduceAdd, List.all_cons, List.all_nil, isCell_int, isCell_bool, isCell_str, isCell_sl, Bool.and_self, ↓z_loadn, Nat.reduceLeDiff, Nat.le_refl, List.take_succ_cons, List.take_zero, z_idx _ _ _ _ _ _ hx, Ins.enc, Ins.cs, AV.cells, q1, q2, q3, q4, q5, decide_true, decide_false, Bool.false_eq_true, idx_own G X _ _ _ _ hok.1.1 hok.1.2, idx_own G X _ _ _ _ hok.2.1 hok.2.2, ↓la, ↓lb, hR.mul l _ _ _ _ hS']
    exact hk0
  have q5 := eq_false h5
  have h6 : x.op = 6 := by omega
  have q6 := eq_true h6
  have h3' : ¬ (x.op = 3 ∨ x.op = 4 ∨ x.op = 5) := by omega
  simp -implicitDefEqProofs only [q1, q2, eq_false h3', q6, ↓reduceIte, decide_eq_true_eq] at hok
  have la := fun k => ld_own G X out j n x.a.toNat (by omega) k _ hg'
  simp -implicitDefEqProofs only [Nat.zero_add] at la
  have hk0 := hk (reup (S.new (.cells [I x.op, I x.a, I x.b])) (σ (l ++ [6]))) (by rw [log1_op h6 (by omega)]; exact reup_child _ _) rfl
  simp -implicitDefEqProofs only [nextR, valR, q1, q2, q3, q4, q5, q6, if_true, if_false] at hk0
  have hw : IntKind.wrap .i64 ((nr : Int) + 1) = ((nr + 1 : Nat) : Int) := wrap_succ nr (by omega)
  simp -implicitDefEqProofs only [↓z_ret, ↓z_val, ↓z_pick, ↓z_cond, ↓z_boxRo_agg, ↓z_boxRo_int, ↓z_boxRo_bool, ↓z_boxRo_str, ↓z_boxRo_sl, ↓z_boxRo_fn, ↓z_boxRo_vptr, ↓z_boxRo_ref, ↓z_len_sl, ↓z_len_msl, ↓z_len_str, ↓z_load1, ↓z_fa, ↓z_fa_ref, ↓z_callF, ↓z_andK, ↓z_orK, ↓z_and1, ↓z_and2, ↓z_and3, ↓z_and4, ↓z_and5, ↓z_and6, ↓z_and7, ↓z_and8, ↓z_and9, ↓z_and10, ↓z_and11, ↓z_and12, ↓z_or1, ↓z_or2, ↓z_or3, ↓z_or4, ↓z_or5, ↓z_or6, ↓z_or7, ↓z_or8, ↓z_or9, ↓z_or10, ↓z_or11, ↓z_or12, ↓z_add, ↓z_sub, ↓z_mul, ↓z_eql, ↓z_neq, ↓z_lss, ↓z_leq, ↓z_gtr, ↓z_geq, ↓z_not, ↓z_neg, ↓z_fin_int, ↓z_fin_bool, ↓z_fin_str, ↓z_ent_int, ↓z_ent_bool, ↓z_ent_str, ↓z_stn, ↓z_ldnn, ↓z_ldn0, ↓z_ldn1, ↓z_ldn2, ↓z_ldn3, ↓z_ldn4, ↓z_ldn5, ↓z_ldn6, ↓z_ldn7, ↓z_ldn8, List.drop_zero, List.drop_succ_cons, List.cons_append, List.nil_append, decide_eq_true_eq, decide_eq_false_iff_not, ite_not, ↓reduceIte, pub_agg, pub_int, pub_bool, pub_str, pub_fn, pub_vptr, pub_nilp, Nat.zero_add, List.length_cons, List.length_nil, Nat.reduceAdd, List.all_cons, List.all_nil, isCell_int, isCell_bool, isCell_str, isCell_sl, Bool.and_self, ↓z_loadn, Nat.reduceLeDiff, Nat.le_refl, List.take_succ_cons, List.take_zero, z_idx _ _ _ _ _ _ hx, Ins.enc, Ins.cs, AV.cells, q1, q2, q3, q4, q5, q6, decide_true, decide_false, Bool.false_eq_true, idx_own G X _ _ _ _ hok.1.1 hok.1.2, ↓la, hR.root l _ _ _ _ hS', hw]
  exact hk0
theorem f9_l3_ok (p : Prog) (inp : List Int) (vi : AV) (hI : InOK G X σ vi inp) (h8 : p.ins.length ≤ 8192) (hin : (inp.length : Int) = p.inputs) (j : Nat) : ∀ (n i nr : Nat) (out : List Int) (l : List Int), i + n = p.ins.length → out.length = i → nr ≤ i → okAll p.inputs (p.ins.drop i) i = true → ∀ (S : St), Child (σ l) S → S.own[j]? = some (.cells (full out p.ins.length)) →
    f9_l3 (PP T1 G X) vi (.vptr [fc, fa, fs, fm, fr]) (.msl (.l j) 0 i p.ins.length 1) (.int .i64 (nr : Int)) (.sl 3 (p.ins.map Ins.enc) p.gi) (I p.ins.length) (.int .i64 (i : Int)) S
      = .ok (.tup [sl1 (runR R inp (p.ins.drop i) nr out) .exact, I 0]) (σ (l ++ logs (p.ins.drop i))) := by
  intro n
  induction n with
  | zero =>
    intro i nr out l hi ho hnr ha S hS hg
    have h : ¬ ((i : Int) < (p.ins.length : Int)) := by omega
    rw [f9_l3_eq _ (PP_ok _ _ _)]
    have hio : out.length = p.ins.length := by omega
    rw [← hio, full_full] at hg
    have hfz : Ab.freeze S (.msl (.l j) 0 out.length out.length 1) = some (.sl 1 (out.map I) .exact) := freeze_msl hg (by simp) (refless_ints out) (by
      intro e he
      obtain ⟨a, _, rfl⟩ := List.mem_map.1 he
      rfl)
    simp -implicitDefEqProofs only [↓z_ret, ↓z_val, ↓z_pick, ↓z_cond, ↓z_boxRo_agg, ↓z_boxRo_int, ↓z_boxRo_bool, ↓z_boxRo_str, ↓z_boxRo_sl, ↓z_boxRo_fn, ↓z_boxRo_vptr, ↓z_boxRo_ref, ↓z_len_sl, ↓z_len_msl, ↓z_len_str, ↓z_load1, ↓z_fa, ↓z_fa_ref, ↓z_callF, ↓z_andK, ↓z_orK, ↓z_and1, ↓z_and2, ↓z_and3, ↓z_and4, ↓z_and5, ↓z_and6, ↓z_and7, ↓z_and8, ↓z_and9, ↓z_and10, ↓z_and11, ↓z_and12, ↓z_or1, ↓z_or2, ↓z_or3, ↓z_or4, ↓z_or5, ↓z_or6, ↓z_or7, ↓z_or8, ↓z_or9, ↓z_or10, ↓z_or11, ↓z_or12, ↓z_add, ↓z_sub, ↓z_mul, ↓z_eql, ↓z_neq, ↓z_lss, ↓z_leq, ↓z_gtr, ↓z_geq, ↓z_not, ↓z_neg, ↓z_fin_int, ↓z_fin_bool, ↓z_fin_str, ↓z_ent_int, ↓z_ent_bool, ↓z_ent_str, ↓z_stn, ↓z_ldnn, ↓z_ldn0, ↓z_ldn1, ↓z_ldn2, ↓z_ldn3, ↓z_ldn4, ↓z_ldn5, ↓z_ldn6, ↓z_ldn7, ↓z_ldn8, List.drop_zero, List.drop_succ_cons, List.cons_append, List.nil_append, decide_eq_true_eq, decide_eq_false_iff_not, ite_not, ↓reduceIte, pub_agg, pub_int, pub_bool, pub_str, pub_fn, pub_vptr, pub_nilp, Nat.zero_add, List.length_cons, List.length_nil, Nat.reduceAdd, List.all_cons, List.all_nil, isCell_int, isCell_bool, isCell_str, isCell_sl, Bool.and_self, ↓z_loadn, Nat.reduceLeDiff, Nat.le_refl, List.take_succ_cons, List.take_zero, eq_false h, decide_false, Bool.false_eq_true, f9_j7_eq _ (PP_ok _ _ _)]
    rw [List.drop_of_length_le (by omega), ← hio, ← ho, z_finC2 hS _ _ _ _ hfz rfl]
    simp -implicitDefEqProofs only [runR, logs, List.append_nil, sl1]
  | succ n ih =>
    intro i nr out l hi ho hnr ha S hS hg
    have h : (i : Int) < (p.ins.length : Int) := by omega
    have hlt : i < p.ins.length := by omega
    obtain ⟨x, hx⟩ : ∃ x, p.ins[i]? = some x := ⟨_, List.getElem?_eq_getElem hlt⟩
    have ea : (p.ins.map Ins.enc)[i]? = some x.enc := by simp [hx]
    have hx' := (List.getElem?_eq_some_iff.1 hx).2
    rw [List.drop_eq_getElem_cons hlt, hx'] at ha ⊢
    simp -implicitDefEqProofs only [okAll, Bool.and_eq_true] at ha
    rw [f9_l3_eq _ (PP_ok _ _ _)]
    simp -implicitDefEqProofs only [↓z_ret, ↓z_val, ↓z_pick, ↓z_cond, ↓z_boxRo_agg, ↓z_boxRo_int, ↓z_boxRo_bool, ↓z_boxRo_str, ↓z_boxRo_sl, ↓z_boxRo_fn, ↓z_boxRo_vptr, ↓z_boxRo_ref, ↓z_len_sl, ↓z_len_msl, ↓z_len_str, ↓z_load1, ↓z_fa, ↓z_fa_ref, ↓z_callF, ↓z_andK, ↓z_orK, ↓z_and1, ↓z_and2, ↓z_and3, ↓z_and4, ↓z_and5, ↓z_and6, ↓z_and7, ↓z_and8, ↓z_and9, ↓z_and10, ↓z_and11, ↓z_and12, ↓z_or1, ↓z_or2, ↓z_or3, ↓z_or4, ↓z_or5, ↓z_or6, ↓z_or7, ↓z_or8, ↓z_or9, ↓z_or10, ↓z_or11, ↓z_or12, ↓z_add, ↓z_sub, ↓z_mul, ↓z_eql, ↓z_neq, ↓z_lss, ↓z_leq, ↓z_gtr, ↓z_geq, ↓z_not, ↓z_neg, ↓z_fin_int, ↓z_fin_bool, ↓z_fin_str, ↓z_ent_int, ↓z_ent_bool, ↓z_ent_str, ↓z_stn, ↓z_ldnn, ↓z_ldn0, ↓z_ldn1, ↓z_ldn2, ↓z_ldn3, ↓z_ldn4, ↓z_ldn5, ↓z_ldn6, ↓z_ldn7, ↓z_ldn8, List.drop_zero, List.drop_succ_cons, List.cons_append, List.nil_append, decide_eq_true_eq, decide_eq_false_iff_not, ite_not, ↓reduceIte, pub_agg, pub_int, pub_bool, pub_str, pub_fn, pub_vptr, pub_nilp, Nat.zero_add, List.length_cons, List.length_nil, Nat.reduceAdd, List.all_cons, List.all_nil, isCell_int, isCell_bool, isCell_str, isCell_sl, Bool.and_self, ↓z_loadn, Nat.reduceLeDiff, Nat.le_refl, List.take_succ_cons, List.take_zero, eq_true h, decide_true, if_true]
    subst ho
    refine f9_j4_ok G X hR inp vi hI _ _ _ _ x out nr j p.ins.length l S hS hg _ (by omega) rfl ea (by rw [hin]; exact ha.1) fun S' hS' hown => ?_
    have hw : IntKind.wrap .i64 ((out.length : Int) + 1) = ((out.length + 1 : Nat) : Int) := wrap_succ out.length (by omega)
    have hg2 : S'.own[j]? = some (.cells (full out p.ins.length)) := by rw [hown]; exact own_new hg _
    rw [f9_j5_eq _ (PP_ok _ _ _)]
    simp -implicitDefEqProofs only [↓z_ret, ↓z_val, ↓z_pick, ↓z_cond, ↓z_boxRo_agg, ↓z_boxRo_int, ↓z_boxRo_bool, ↓z_boxRo_str, ↓z_boxRo_sl, ↓z_boxRo_fn, ↓z_boxRo_vptr, ↓z_boxRo_ref, ↓z_len_sl, ↓z_len_msl, ↓z_len_str, ↓z_load1, ↓z_fa, ↓z_fa_ref, ↓z_callF, ↓z_andK, ↓z_orK, ↓z_and1, ↓z_and2, ↓z_and3, ↓z_and4, ↓z_and5, ↓z_and6, ↓z_and7, ↓z_and8, ↓z_and9, ↓z_and10, ↓z_and11, ↓z_and12, ↓z_or1, ↓z_or2, ↓z_or3, ↓z_or4, ↓z_or5, ↓z_or6, ↓z_or7, ↓z_or8, ↓z_or9, ↓z_or10, ↓z_or11, ↓z_or12, ↓z_add, ↓z_sub, ↓z_mul, ↓z_eql, ↓z_neq, ↓z_lss, ↓z_leq, ↓z_gtr, ↓z_geq, ↓z_not, ↓z_neg, ↓z_fin_int, ↓z_fin_bool, ↓z_fin_str, ↓z_ent_int, ↓z_ent_bool, ↓z_ent_str, ↓z_stn, ↓z_ldnn, ↓z_ldn0, ↓z_ldn1, ↓z_ldn2, ↓z_ldn3, ↓z_ldn4, ↓z_ldn5, ↓z_ldn6, ↓z_ldn7, ↓z_ldn8, List.drop_zero, List.drop_succ_cons, List.cons_append, List.nil_append, decide_eq_true_eq, decide_eq_false_iff_not, ite_not, ↓reduceIte, pub_agg, pub_int, pub_bool, pub_str, pub_fn, pub_vptr, pub_nilp, Nat.zero_add, List.length_cons, List.length_nil, Nat.reduceAdd, List.all_cons, List.all_nil, isCell_int, isCell_bool, isCell_str, isCell_sl, Bool.and_self, ↓z_loadn, Nat.reduceLeDiff, Nat.le_refl, List.take_succ_cons, List.take_zero, z_bs_int]
    rw [z_append_msl hg2 hlt (full_len _ _ (by omega)) rfl rfl, f9_j6_eq _ (PP_ok _ _ _)]
    simp -implicitDefEqProofs only [↓z_ret, ↓z_val, ↓z_pick, ↓z_cond, ↓z_boxRo_agg, ↓z_boxRo_int, ↓z_boxRo_bool, ↓z_boxRo_str, ↓z_boxRo_sl, ↓z_boxRo_fn, ↓z_boxRo_vptr, ↓z_boxRo_ref, ↓z_len_sl, ↓z_len_msl, ↓z_len_str, ↓z_load1, ↓z_fa, ↓z_fa_ref, ↓z_callF, ↓z_andK, ↓z_orK, ↓z_and1, ↓z_and2, ↓z_and3, ↓z_and4, ↓z_and5, ↓z_and6, ↓z_and7, ↓z_and8, ↓z_and9, ↓z_and10, ↓z_and11, ↓z_and12, ↓z_or1, ↓z_or2, ↓z_or3, ↓z_or4, ↓z_or5, ↓z_or6, ↓z_or7, ↓z_or8, ↓z_or9, ↓z_or10, ↓z_or11, ↓z_or12, ↓z_add, ↓z_sub, ↓z_mul, ↓z_eql, ↓z_neq, ↓z_lss, ↓z_leq, ↓z_gtr, ↓z_geq, ↓z_not, ↓z_neg, ↓z_fin_int, ↓z_fin_bool, ↓z_fin_str, ↓z_ent_int, ↓z_ent_bool, ↓z_ent_str, ↓z_stn, ↓z_ldnn, ↓z_ldn0, ↓z_ldn1, ↓z_ldn2, ↓z_ldn3, ↓z_ldn4, ↓z_ldn5, ↓z_ldn6, ↓z_ldn7, ↓z_ldn8, List.drop_zero, List.drop_succ_cons, List.cons_append, List.nil_append, decide_eq_true_eq, decide_eq_false_iff_not, ite_not, ↓reduceIte, pub_agg, pub_int, pub_bool, pub_str, pub_fn, pub_vptr, pub_nilp, Nat.zero_add, List.length_cons, List.length_nil, Nat.reduceAdd, List.all_cons, List.all_nil, isCell_int, isCell_bool, isCell_str, isCell_sl, Bool.and_self, ↓z_loadn, Nat.reduceLeDiff, Nat.le_refl, List.take_succ_cons, List.take_zero, hw]
    have hj := (List.getElem?_eq_some_iff.1 hg2).1
    rw [full_set _ _ _ hlt]
    have := ih (out.length + 1) (nextR x nr) (out ++ [valR R inp out nr x]) (l ++ log1 x) (by omega) (by simp) (by unfold nextR; split <;> omega) ha.2 { own := S'.own.set j (.cells (full (out ++ [valR R inp out nr x]) p.ins.length)), up := S'.up, ro := S'.ro } ⟨hS'.up, hS'.ro⟩ (by simp [hj])
    rw [this]
    simp -implicitDefEqProofs only [runR, logs, List.append_assoc]
theorem f9_ok (p : Prog) (inp : List Int) (vi : AV) (hI : InOK G X σ vi inp) (hv : p.vals.length ≤ 9223372036854775807) (hvv : ∀ v, v ∈ p.vals → v.1.length ≤ 9223372036854775807) (hin : (inp.length : Int) = p.inputs) (hc : p.check = 0) :
    callω T1 G X 9 [p.enc, .agg [fc, fa, fs, fm, fr], vi] (σ []) = .ok (.tup [sl1 (runR R inp p.ins 0 []) .exact, I 0]) (σ (logs p.ins)) := by
  rw [f9_call, f9_eq]
  have h7 := f7_ok G X p (σ []).enter hv hvv
  simp -implicitDefEqProofs only [Prog.enc, Prog.cs] at h7
  have h3 := f9_l3_ok G X hR p inp vi hI (check0 hc).1 hin (σ []).enter.own.length p.ins.length 0 0 [] [] (by omega) rfl (by omega) (okAll_scan _ _ _ _ _ _ (check0 hc).2.2.1) ((σ []).enter.new (.cells (List.replicate p.ins.length (I 0)))) ((Child.enter (σ [])).new _) (by simp [St.new, full])
  simp -implicitDefEqProofs only [Int.natCast_zero, List.drop_zero, List.nil_append] at h3
  have hmk := fun (k : K1) => z_make (T := T1) (G := G) (X := X) (s := (σ []).enter) (k := k) (I 0) 8 0 p.ins.length (Nat.zero_le _) (by have := (check0 hc).1; omega)
  simp -implicitDefEqProofs only [Int.natCast_zero] at hmk
  simp -implicitDefEqProofs only [Prog.enc, Prog.cs, ↓z_ret, ↓z_val, ↓z_pick, ↓z_cond, ↓z_boxRo_agg, ↓z_boxRo_int, ↓z_boxRo_bool, ↓z_boxRo_str, ↓z_boxRo_sl, ↓z_boxRo_fn, ↓z_boxRo_vptr, ↓z_boxRo_ref, ↓z_len_sl, ↓z_len_msl, ↓z_len_str, ↓z_load1, ↓z_fa, ↓z_fa_ref, ↓z_callF, ↓z_andK, ↓z_orK, ↓z_and1, ↓z_and2, ↓z_and3, ↓z_and4, ↓z_and5, ↓z_and6, ↓z_and7, ↓z_and8, ↓z_and9, ↓z_and10, ↓z_and11, ↓z_and12, ↓z_or1, ↓z_or2, ↓z_or3, ↓z_or4, ↓z_or5, ↓z_or6, ↓z_or7, ↓z_or8, ↓z_or9, ↓z_or10, ↓z_or11, ↓z_or12, ↓z_add, ↓z_sub, ↓z_mul, ↓z_eql, ↓z_neq, ↓z_lss, ↓z_leq, ↓z_gtr, ↓z_geq, ↓z_not, ↓z_neg, ↓z_fin_int, ↓z_fin_bool, ↓z_fin_str, ↓z_ent_int, ↓z_ent_bool, ↓z_ent_str, ↓z_stn, ↓z_ldnn, ↓z_ldn0, ↓z_ldn1, ↓z_ldn2, ↓z_ldn3, ↓z_ldn4, ↓z_ldn5, ↓z_ldn6, ↓z_ldn7, ↓z_ldn8, List.drop_zero, List.drop_succ_cons, List.cons_append, List.nil_append, decide_eq_true_eq, decide_eq_false_iff_not, ite_not, ↓reduceIte, pub_agg, pub_int, pub_bool, pub_str, pub_fn, pub_vptr, pub_nilp, Nat.zero_add, List.length_cons, List.length_nil, Nat.reduceAdd, List.all_cons, List.all_nil, isCell_int, isCell_bool, isCell_str, isCell_sl, Bool.and_self, ↓z_loadn, Nat.reduceLeDiff, Nat.le_refl, List.take_succ_cons, List.take_zero, z_call0 h7, eq_true hc, hin, f9_j1_eq _ (PP_ok _ _ _), f9_j2_eq _ (PP_ok _ _ _), decide_true, decide_false, Bool.false_eq_true, not_true_eq_false, List.length_map, ↓hmk, hI.len [] _ _ (Child.enter (σ []))]
  exact h3
end
theorem ringOK_pure (m b : Int) (s : St) : RingOK G X (opsM m b) (fun _ => s) (.fn 19 [.vptr (rcs m b)]) (.fn 20 [.vptr (rcs m b)]) (.fn 22 [.vptr (rcs m b)]) (.fn 24 [.vptr (rcs m b)]) (.fn 26 [.vptr (rcs m b)]) where
  c := fun l n S k hS => by rw [z_callF, reup_self hS]; exact z_call0 (f19_ok G X m b n S)
  add := fun l x y S k hS => by rw [z_callF, reup_self hS]; exact z_call0 (f20_ok G X m b x y S)
  sub := fun l x y S k hS => by rw [z_callF, reup_self hS]; exact z_call0 (f22_ok G X m b x y S)
  mul := fun l x y S k hS => by rw [z_callF, reup_self hS]; exact z_call0 (f24_ok G X m b x y S)
  root := fun l x y S k hS => by rw [z_callF, reup_self hS]; exact z_call0 (f26_ok G X m b x y S)
end Go.AbD
end
section
namespace Go.AbD
open Go.Ab
variable (G : Nat → AV) (X : Nat → List AV → St → Res)
set_option linter.unusedSimpArgs false
set_option linter.unusedVariables false
theorem z_st_own {S : St} {k : K1} {j o : Nat} {cs : List AV} {v : AV} (h : S.own[j]? = some (.cells cs)) (ho : o < cs.length) (hv : v.isCell = true) (hc : v.cells = [v]) :
    (PP T1 G X).store S k 1 (.ref (.l j) o) v = k .dead { S with own := S.own.set j (.cells (cs.set o v)) } := by
  rw [zz_store]
  have hval : v.isVal = true := by cases v <;> first | rfl | cases hv
  simp -implicitDefEqProofs only [storeOp, hval, hc, List.length_cons, List.length_nil, Nat.zero_add, Nat.beq_refl, Bool.and_self, cond_true]
  unfold storeV
  rw [show S.get (.l j) = some (.cells cs) from h]
  simp -implicitDefEqProofs only [List.length_cons, List.length_nil, Nat.zero_add, show Nat.ble (o + 1) cs.length = true from Nat.ble_eq_true_of_le ho, show S.takes (.l j) [v] = true from by simp [St.takes, St.isOwn], List.all_cons, hv, List.all_nil, Bool.and_self, cond_true]
  rfl
/-- The state of SlpReduces's frame. -/
abbrev st3 (s : St) (M a b : Int) (xs ys : List AV) : St := { own := [.cells (rcs M b), .cells (rcs a b), .cells xs, .cells ys], up := s.own :: s.up, ro := s.ro }
theorem ld3_0 (s : St) (M a b : Int) (xs ys : List AV) (k : K1) : (PP T1 G X).load (st3 s M a b xs ys) k (some 3) (.ref (.l 0) 0) = k (.agg (rcs M b)) (st3 s M a b xs ys) := rfl
theorem ld3_1 (s : St) (M a b : Int) (xs ys : List AV) (k : K1) : (PP T1 G X).load (st3 s M a b xs ys) k (some 3) (.ref (.l 1) 0) = k (.agg (rcs a b)) (st3 s M a b xs ys) := rfl
theorem st3_2 (s : St) (M a b : Int) (xs ys : List AV) (k : K1) (i : Nat) (v : Int) (h : i < xs.length) : (PP T1 G X).store (st3 s M a b xs ys) k 1 (.ref (.l 2) (i * 1)) (I v) = k .dead (st3 s M a b (xs.set i (I v)) ys) := by
  rw [z_st_own G X (cs := xs) rfl (by omega) rfl rfl, Nat.mul_one]
  rfl
theorem st3_3 (s : St) (M a b : Int) (xs ys : List AV) (k : K1) (i : Nat) (v : Int) (h : i < ys.length) : (PP T1 G X).store (st3 s M a b xs ys) k 1 (.ref (.l 3) (i * 1)) (I v) = k .dead (st3 s M a b xs (ys.set i (I v))) := by
  rw [z_st_own G X (cs := ys) rfl (by omega) rfl rfl, Nat.mul_one]
  rfl
theorem full_next (f : Int → Int) (inp : List Int) (i : Nat) (h : i < inp.length) : (full ((inp.take i).map f) inp.length).set i (I (f inp[i])) = full ((inp.take (i + 1)).map f) inp.length := by
  have e : ((inp.take i).map f).length = i := by simp; omega
  have := full_set ((inp.take i).map f) inp.length (f inp[i]) (by rw [e]; exact h)
  rw [e] at this
  rw [this, List.take_succ_eq_append_getElem h, List.map_append]
  rfl
theorem full_len' (f : Int → Int) (inp : List Int) (i : Nat) : (full ((inp.take i).map f) inp.length).length = inp.length := full_len _ _ (by simp; omega)
theorem f3_l2_ok (s : St) (p : Prog) (v3 : AV) (inp : List Int) (gi : Gr) (M a b : Int) (R : Res) (hn : inp.length ≤ 20) (hR : f3_j5 (PP T1 G X) v3 (.bool true) (.ref (.l 0) 0) (.ref (.l 1) 0) (.msl (.l 2) 0 inp.length inp.length 1) (.msl (.l 3) 0 inp.length inp.length 1) (st3 s M a b ((inp.map (redI M)).map I) ((inp.map (redI a)).map I)) = R) :
    ∀ (n i : Nat), i + n = inp.length → 
    f3_l2 (PP T1 G X) (.sl 1 (inp.map I) gi) v3 (.bool true) (.ref (.l 0) 0) (.ref (.l 1) 0) (.msl (.l 2) 0 inp.length inp.length 1) (.msl (.l 3) 0 inp.length inp.length 1) (.int .i64 (i : Int)) (st3 s M a b (full ((inp.take i).map (redI M)) inp.length) (full ((inp.take i).map (redI a)) inp.length)) = R := by
  intro n
  induction n with
  | zero =>
    intro i hi
    have h : ¬ ((i : Int) < (inp.length : Int)) := by omega
    have hi' : i = inp.length := by omega
    subst hi'
    rw [f3_l2_eq _ (PP_ok _ _ _)]
    simp -implicitDefEqProofs only [↓z_ret, ↓z_val, ↓z_pick, ↓z_cond, ↓z_boxRo_agg, ↓z_boxRo_int, ↓z_boxRo_bool, ↓z_boxRo_str, ↓z_boxRo_sl, ↓z_boxRo_fn, ↓z_boxRo_vptr, ↓z_boxRo_ref, ↓z_len_sl, ↓z_len_msl, ↓z_len_str, ↓z_load1, ↓z_fa, ↓z_fa_ref, ↓z_callF, ↓z_andK, ↓z_orK, ↓z_and1, ↓z_and2, ↓z_and3, ↓z_and4, ↓z_and5, ↓z_and6, ↓z_and7, ↓z_and8, ↓z_and9, ↓z_and10, ↓z_and11, ↓z_and12, ↓z_or1, ↓z_or2, ↓z_or3, ↓z_or4, ↓z_or5, ↓z_or6, ↓z_or7, ↓z_or8, ↓z_or9, ↓z_or10, ↓z_or11, ↓z_or12, ↓z_add, ↓z_sub, ↓z_mul, ↓z_eql, ↓z_neq, ↓z_lss, ↓z_leq, ↓z_gtr, ↓z_geq, ↓z_not, ↓z_neg, ↓z_fin_int, ↓z_fin_bool, ↓z_fin_str, ↓z_ent_int, ↓z_ent_bool, ↓z_ent_str, ↓z_stn, ↓z_ldnn, ↓z_ldn0, ↓z_ldn1, ↓z_ldn2, ↓z_ldn3, ↓z_ldn4, ↓z_ldn5, ↓z_ldn6, ↓z_ldn7, ↓z_ldn8, List.drop_zero, List.drop_succ_cons, List.cons_append, List.nil_append, decide_eq_true_eq, decide_eq_false_iff_not, ite_not, ↓reduceIte, pub_agg, pub_int, pub_bool, pub_str, pub_fn, pub_vptr, pub_nilp, Nat.zero_add, List.length_cons, List.length_nil, Nat.reduceAdd, List.all_cons, List.all_nil, isCell_int, isCell_bool, isCell_str, isCell_sl, Bool.and_self, ↓z_loadn, Nat.reduceLeDiff, Nat.le_refl, List.take_succ_cons, List.take_zero, List.length_map, eq_false h, decide_false, Bool.false_eq_true, List.take_length]
    have e1 : ∀ q, full (inp.map (redI q)) inp.length = (inp.map (redI q)).map I := fun q => by
      have := full_full (inp.map (redI q))
      simpa using this
    rw [e1, e1]
    exact hR
  | succ n ih =>
    intro i hi
    have h : (i : Int) < (inp.length : Int) := by omega
    have hlt : i < inp.length := by omega
    have ea : (inp.map I)[i]? = some (I inp[i]) := by simp [hlt]
    rw [f3_l2_eq _ (PP_ok _ _ _)]
    simp -implicitDefEqProofs only [↓z_ret, ↓z_val, ↓z_pick, ↓z_cond, ↓z_boxRo_agg, ↓z_boxRo_int, ↓z_boxRo_bool, ↓z_boxRo_str, ↓z_boxRo_sl, ↓z_boxRo_fn, ↓z_boxRo_vptr, ↓z_boxRo_ref, ↓z_len_sl, ↓z_len_msl, ↓z_len_str, ↓z_load1, ↓z_fa, ↓z_fa_ref, ↓z_callF, ↓z_andK, ↓z_orK, ↓z_and1, ↓z_and2, ↓z_and3, ↓z_and4, ↓z_and5, ↓z_and6, ↓z_and7, ↓z_and8, ↓z_and9, ↓z_and10, ↓z_and11, ↓z_and12, ↓z_or1, ↓z_or2, ↓z_or3, ↓z_or4, ↓z_or5, ↓z_or6, ↓z_or7, ↓z_or8, ↓z_or9, ↓z_or10, ↓z_or11, ↓z_or12, ↓z_add, ↓z_sub, ↓z_mul, ↓z_eql, ↓z_neq, ↓z_lss, ↓z_leq, ↓z_gtr, ↓z_geq, ↓z_not, ↓z_neg, ↓z_fin_int, ↓z_fin_bool, ↓z_fin_str, ↓z_ent_int, ↓z_ent_bool, ↓z_ent_str, ↓z_stn, ↓z_ldnn, ↓z_ldn0, ↓z_ldn1, ↓z_ldn2, ↓z_ldn3, ↓z_ldn4, ↓z_ldn5, ↓z_ldn6, ↓z_ldn7, ↓z_ldn8, List.drop_zero, List.drop_succ_cons, List.cons_append, List.nil_append, decide_eq_true_eq, decide_eq_false_iff_not, ite_not, ↓reduceIte, pub_agg, pub_int, pub_bool, pub_str, pub_fn, pub_vptr, pub_nilp, Nat.zero_add, List.length_cons, List.length_nil, Nat.reduceAdd, List.all_cons, List.all_nil, isCell_int, isCell_bool, isCell_str, isCell_sl, Bool.and_self, ↓z_loadn, Nat.reduceLeDiff, Nat.le_refl, List.take_succ_cons, List.take_zero, List.length_map, eq_true h, decide_true, if_true, f3_j3_eq _ (PP_ok _ _ _), z_idx _ _ _ _ _ _ ea, AV.cells]
    have hw : IntKind.wrap .i64 ((i : Int) + 1) = ((i + 1 : Nat) : Int) := wrap_succ i (by omega)
    have hx : ∀ f, i < (full ((inp.take i).map f) inp.length).length := fun f => by rw [full_len']; exact hlt
    have s2 := fun f g k v => st3_2 G X s M a b (full ((inp.take i).map f) inp.length) (full ((inp.take i).map g) inp.length) k i v (hx f)
    have s3 := fun xs g k v => st3_3 G X s M a b xs (full ((inp.take i).map g) inp.length) k i v (hx g)
    simp -implicitDefEqProofs only [↓z_ret, ↓z_val, ↓z_pick, ↓z_cond, ↓z_boxRo_agg, ↓z_boxRo_int, ↓z_boxRo_bool, ↓z_boxRo_str, ↓z_boxRo_sl, ↓z_boxRo_fn, ↓z_boxRo_vptr, ↓z_boxRo_ref, ↓z_len_sl, ↓z_len_msl, ↓z_len_str, ↓z_load1, ↓z_fa, ↓z_fa_ref, ↓z_callF, ↓z_andK, ↓z_orK, ↓z_and1, ↓z_and2, ↓z_and3, ↓z_and4, ↓z_and5, ↓z_and6, ↓z_and7, ↓z_and8, ↓z_and9, ↓z_and10, ↓z_and11, ↓z_and12, ↓z_or1, ↓z_or2, ↓z_or3, ↓z_or4, ↓z_or5, ↓z_or6, ↓z_or7, ↓z_or8, ↓z_or9, ↓z_or10, ↓z_or11, ↓z_or12, ↓z_add, ↓z_sub, ↓z_mul, ↓z_eql, ↓z_neq, ↓z_lss, ↓z_leq, ↓z_gtr, ↓z_geq, ↓z_not, ↓z_neg, ↓z_fin_int, ↓z_fin_bool, ↓z_fin_str, ↓z_ent_int, ↓z_ent_bool, ↓z_ent_str, ↓z_stn, ↓z_ldnn, ↓z_ldn0, ↓z_ldn1, ↓z_ldn2, ↓z_ldn3, ↓z_ldn4, ↓z_ldn5, ↓z_ldn6, ↓z_ldn7, ↓z_ldn8, List.drop_zero, List.drop_succ_cons, List.cons_append, List.nil_append, decide_eq_true_eq, decide_eq_false_iff_not, ite_not, ↓reduceIte, pub_agg, pub_int, pub_bool, pub_str, pub_fn, pub_vptr, pub_nilp, Nat.zero_add, List.length_cons, List.length_nil, Nat.reduceAdd, List.all_cons, List.all_nil, isCell_int, isCell_bool, isCell_str, isCell_sl, Bool.and_self, ↓z_loadn, Nat.reduceLeDiff, Nat.le_refl, List.take_succ_cons, List.take_zero, ld3_0, ld3_1, z_call0 (f8_ok' G X _ _ _ _), z_idx_msl _ _ _ _ _ _ _ hlt, s2, s3, full_next _ _ _ hlt, f3_j4_eq _ (PP_ok _ _ _), hw]
    exact ih (i + 1) (by omega)
theorem f3_l7_ok (s : St) (M a b : Int) (xs ys : List AV) (V W : List Int) (hl : V.length = W.length) (hn : V.length ≤ 8192) (he : ∀ i, i < V.length → redI a (V.getD i 0) = W.getD i 0) : ∀ (n i : Nat), i + n = V.length →
    f3_l7 (PP T1 G X) (.bool true) (.ref (.l 1) 0) (sl1 V .exact) (sl1 W .exact) (.int .i64 (i : Int)) (st3 s M a b xs ys) = .ok (.bool true) s := by
  have hC : Child s (st3 s M a b xs ys) := ⟨rfl, rfl⟩
  intro n
  induction n with
  | zero =>
    intro i hi
    have h : ¬ ((i : Int) < (V.length : Int)) := by omega
    rw [f3_l7_eq _ (PP_ok _ _ _)]
    simp -implicitDefEqProofs only [↓z_ret, ↓z_val, ↓z_pick, ↓z_cond, ↓z_boxRo_agg, ↓z_boxRo_int, ↓z_boxRo_bool, ↓z_boxRo_str, ↓z_boxRo_sl, ↓z_boxRo_fn, ↓z_boxRo_vptr, ↓z_boxRo_ref, ↓z_len_sl, ↓z_len_msl, ↓z_len_str, ↓z_load1, ↓z_fa, ↓z_fa_ref, ↓z_callF, ↓z_andK, ↓z_orK, ↓z_and1, ↓z_and2, ↓z_and3, ↓z_and4, ↓z_and5, ↓z_and6, ↓z_and7, ↓z_and8, ↓z_and9, ↓z_and10, ↓z_and11, ↓z_and12, ↓z_or1, ↓z_or2, ↓z_or3, ↓z_or4, ↓z_or5, ↓z_or6, ↓z_or7, ↓z_or8, ↓z_or9, ↓z_or10, ↓z_or11, ↓z_or12, ↓z_add, ↓z_sub, ↓z_mul, ↓z_eql, ↓z_neq, ↓z_lss, ↓z_leq, ↓z_gtr, ↓z_geq, ↓z_not, ↓z_neg, ↓z_fin_int, ↓z_fin_bool, ↓z_fin_str, ↓z_ent_int, ↓z_ent_bool, ↓z_ent_str, ↓z_stn, ↓z_ldnn, ↓z_ldn0, ↓z_ldn1, ↓z_ldn2, ↓z_ldn3, ↓z_ldn4, ↓z_ldn5, ↓z_ldn6, ↓z_ldn7, ↓z_ldn8, List.drop_zero, List.drop_succ_cons, List.cons_append, List.nil_append, decide_eq_true_eq, decide_eq_false_iff_not, ite_not, ↓reduceIte, pub_agg, pub_int, pub_bool, pub_str, pub_fn, pub_vptr, pub_nilp, Nat.zero_add, List.length_cons, List.length_nil, Nat.reduceAdd, List.all_cons, List.all_nil, isCell_int, isCell_bool, isCell_str, isCell_sl, Bool.and_self, ↓z_loadn, Nat.reduceLeDiff, Nat.le_refl, List.take_succ_cons, List.take_zero, sl1, List.length_map, eq_false h, decide_false, Bool.false_eq_true, f3_j10_eq _ (PP_ok _ _ _), z_finC_bool hC]
  | succ n ih =>
    intro i hi
    have h : (i : Int) < (V.length : Int) := by omega
    have hlt : i < V.length := by omega
    have ih' := ih (i + 1) (by omega)
    simp -implicitDefEqProofs only [sl1] at ih'
    have hw : IntKind.wrap .i64 ((i : Int) + 1) = ((i + 1 : Nat) : Int) := wrap_succ i (by omega)
    have h8 := fun n => f8_ok' G X a b n { own := [], up := [], ro := [] }
    have hr3 : ∀ q, AV.reflessL [.agg (rcs a b), I q] = true := fun _ => rfl
    rw [f3_l7_eq _ (PP_ok _ _ _)]
    simp -implicitDefEqProofs only [↓z_ret, ↓z_val, ↓z_pick, ↓z_cond, ↓z_boxRo_agg, ↓z_boxRo_int, ↓z_boxRo_bool, ↓z_boxRo_str, ↓z_boxRo_sl, ↓z_boxRo_fn, ↓z_boxRo_vptr, ↓z_boxRo_ref, ↓z_len_sl, ↓z_len_msl, ↓z_len_str, ↓z_load1, ↓z_fa, ↓z_fa_ref, ↓z_callF, ↓z_andK, ↓z_orK, ↓z_and1, ↓z_and2, ↓z_and3, ↓z_and4, ↓z_and5, ↓z_and6, ↓z_and7, ↓z_and8, ↓z_and9, ↓z_and10, ↓z_and11, ↓z_and12, ↓z_or1, ↓z_or2, ↓z_or3, ↓z_or4, ↓z_or5, ↓z_or6, ↓z_or7, ↓z_or8, ↓z_or9, ↓z_or10, ↓z_or11, ↓z_or12, ↓z_add, ↓z_sub, ↓z_mul, ↓z_eql, ↓z_neq, ↓z_lss, ↓z_leq, ↓z_gtr, ↓z_geq, ↓z_not, ↓z_neg, ↓z_fin_int, ↓z_fin_bool, ↓z_fin_str, ↓z_ent_int, ↓z_ent_bool, ↓z_ent_str, ↓z_stn, ↓z_ldnn, ↓z_ldn0, ↓z_ldn1, ↓z_ldn2, ↓z_ldn3, ↓z_ldn4, ↓z_ldn5, ↓z_ldn6, ↓z_ldn7, ↓z_ldn8, List.drop_zero, List.drop_succ_cons, List.cons_append, List.nil_append, decide_eq_true_eq, decide_eq_false_iff_not, ite_not, ↓reduceIte, pub_agg, pub_int, pub_bool, pub_str, pub_fn, pub_vptr, pub_nilp, Nat.zero_add, List.length_cons, List.length_nil, Nat.reduceAdd, List.all_cons, List.all_nil, isCell_int, isCell_bool, isCell_str, isCell_sl, Bool.and_self, ↓z_loadn, Nat.reduceLeDiff, Nat.le_refl, List.take_succ_cons, List.take_zero, sl1, List.length_map, eq_true h, decide_true, if_true, f3_j8_eq _ (PP_ok _ _ _), ld3_1, idx_out G X V _ (i : Int) (by omega) (by omega), idx_out G X W _ (i : Int) (by omega) (by omega), z_callP (hr3 _) (h8 _) rfl, Int.toNat_natCast, he i hlt, not_true_eq_false, decide_false, Bool.false_eq_true, f3_j9_eq _ (PP_ok _ _ _), hw]
    exact ih'
theorem pub_msl (d i o l c z : Nat) : AV.pub d (.msl (.l i) o l c z) = .msl (.g d i) o l c z := rfl
theorem f3_j5_ok (s : St) (p : Prog) (inp : List Int) (M a b : Int) (hv : p.vals.length ≤ 9223372036854775807) (hvv : ∀ v, v ∈ p.vals → v.1.length ≤ 9223372036854775807) (hin : (inp.length : Int) = p.inputs) (hc : p.check = 0) (hr : p.enc.refless = true)
    (ha : 0 < a) (hM : 0 < M) (haM : a ∣ M) (hle : a ≤ M) (hbig : M ≤ 1000000000) :
    f3_j5 (PP T1 G X) (.vptr p.cs) (.bool true) (.ref (.l 0) 0) (.ref (.l 1) 0) (.msl (.l 2) 0 inp.length inp.length 1) (.msl (.l 3) 0 inp.length inp.length 1) (st3 s M a b ((inp.map (redI M)).map I) ((inp.map (redI a)).map I)) = .ok (.bool true) s := by
  rw [f3_j5_eq _ (PP_ok _ _ _)]
  have hr10 : ∀ q, AV.reflessL [.agg (rcs q b)] = true := fun _ => rfl
  have h10 := fun q => f10_ok G X q b
  have hring : ∀ q, (AV.agg (ringCs q b)).refless = true := fun _ => rfl
  let S := st3 s M a b ((inp.map (redI M)).map I) ((inp.map (redI a)).map I)
  have h9x : callω T1 G X 9 [.agg p.cs, .agg (ringCs M b), .msl (.g (st3 s M a b ((inp.map (redI M)).map I) ((inp.map (redI a)).map I)).depth 2) 0 inp.length inp.length 1] (st3 s M a b ((inp.map (redI M)).map I) ((inp.map (redI a)).map I)) = .ok (.tup [sl1 (runR (opsM M b) (inp.map (redI M)) p.ins 0 []) .exact, I 0]) (st3 s M a b ((inp.map (redI M)).map I) ((inp.map (redI a)).map I)) :=
    f9_ok G X (ringOK_pure G X M b S) p (inp.map (redI M)) _ (inOK_own G X S 2 (inp.map (redI M)) inp.length (by simp) rfl) hv hvv (by simpa using hin) hc
  have h9y : callω T1 G X 9 [.agg p.cs, .agg (ringCs a b), .msl (.g (st3 s M a b ((inp.map (redI M)).map I) ((inp.map (redI a)).map I)).depth 3) 0 inp.length inp.length 1] (st3 s M a b ((inp.map (redI M)).map I) ((inp.map (redI a)).map I)) = .ok (.tup [sl1 (runR (opsM a b) (inp.map (redI a)) p.ins 0 []) .exact, I 0]) (st3 s M a b ((inp.map (redI M)).map I) ((inp.map (redI a)).map I)) :=
    f9_ok G X (ringOK_pure G X a b S) p (inp.map (redI a)) _ (inOK_own G X S 3 (inp.map (redI a)) inp.length (by simp) rfl) hv hvv (by simpa using hin) hc
  have hxy : RedL a M (inp.map (redI M)) (inp.map (redI a)) := ⟨by simp, fun i hi => by
    have hi' : i < inp.length := by simpa using hi
    have := red_red ha hM haM hle hbig inp[i]
    simpa [List.getD, hi'] using this⟩
  have hok := okAll_scan _ _ _ _ _ _ (check0 hc).2.2.1
  have hL := redL_runR ha hM haM hle hbig b _ _ hxy p.ins 0 0 [] [] (by simpa [hin] using hok) rfl ⟨rfl, fun i h => by simp at h⟩
  have hlen := runR_len (opsM M b) (inp.map (redI M)) p.ins 0 []
  have h8 := (check0 hc).1
  generalize hV : runR (opsM M b) (inp.map (redI M)) p.ins 0 [] = V at *
  generalize hW : runR (opsM a b) (inp.map (redI a)) p.ins 0 [] = W at *
  have l7 := f3_l7_ok G X s M a b ((inp.map (redI M)).map I) ((inp.map (redI a)).map I) V W hL.1 (by simp at hlen; omega) (fun i hi => by
    have h := hL.2 i hi
    have h2 := h.lo2 ha hM haM hle hbig
    rw [redI_pos ha (by omega)]
    exact h.eq) V.length 0 (by omega)
  simp -implicitDefEqProofs only [Int.natCast_zero] at l7
  have hL1 : (V.length : Int) = (W.length : Int) := by have := hL.1; omega
  simp -implicitDefEqProofs only [Prog.cs] at h9x h9y ⊢
  simp -implicitDefEqProofs only [↓z_ret, ↓z_val, ↓z_pick, ↓z_cond, ↓z_boxRo_agg, ↓z_boxRo_int, ↓z_boxRo_bool, ↓z_boxRo_str, ↓z_boxRo_sl, ↓z_boxRo_fn, ↓z_boxRo_vptr, ↓z_boxRo_ref, ↓z_len_sl, ↓z_len_msl, ↓z_len_str, ↓z_load1, ↓z_fa, ↓z_fa_ref, ↓z_callF, ↓z_andK, ↓z_orK, ↓z_and1, ↓z_and2, ↓z_and3, ↓z_and4, ↓z_and5, ↓z_and6, ↓z_and7, ↓z_and8, ↓z_and9, ↓z_and10, ↓z_and11, ↓z_and12, ↓z_or1, ↓z_or2, ↓z_or3, ↓z_or4, ↓z_or5, ↓z_or6, ↓z_or7, ↓z_or8, ↓z_or9, ↓z_or10, ↓z_or11, ↓z_or12, ↓z_add, ↓z_sub, ↓z_mul, ↓z_eql, ↓z_neq, ↓z_lss, ↓z_leq, ↓z_gtr, ↓z_geq, ↓z_not, ↓z_neg, ↓z_fin_int, ↓z_fin_bool, ↓z_fin_str, ↓z_ent_int, ↓z_ent_bool, ↓z_ent_str, ↓z_stn, ↓z_ldnn, ↓z_ldn0, ↓z_ldn1, ↓z_ldn2, ↓z_ldn3, ↓z_ldn4, ↓z_ldn5, ↓z_ldn6, ↓z_ldn7, ↓z_ldn8, List.drop_zero, List.drop_succ_cons, List.cons_append, List.nil_append, decide_eq_true_eq, decide_eq_false_iff_not, ite_not, ↓reduceIte, pub_agg, pub_int, pub_bool, pub_str, pub_fn, pub_vptr, pub_nilp, Nat.zero_add, List.length_cons, List.length_nil, Nat.reduceAdd, List.all_cons, List.all_nil, isCell_int, isCell_bool, isCell_str, isCell_sl, Bool.and_self, ↓z_loadn, Nat.reduceLeDiff, Nat.le_refl, List.take_succ_cons, List.take_zero, ld3_0, ld3_1, z_callP (hr10 _) (h10 _) (hring _), pub_msl, z_call0 h9x, z_call0 h9y, ↓z_ext0, ↓z_ext1, not_true_eq_false, decide_false, decide_true, Bool.false_eq_true, sl1, List.length_map, hL1, f3_j6_eq _ (PP_ok _ _ _)]
  exact l7
theorem z_build_rule (s : St) (k : K1) (x y : Int) : (PP T1 G X).build [.int .i64 0, .int .i64 0, .sl 1 [] .nil] [(0, 1, I x), (1, 1, I y)] s k = k (.agg (rcs x y)) s := rfl
theorem z_st_rule (s : St) (k : K1) (x y : Int) (cs : List AV) (h2 : cs.length = 3) : (PP T1 G X).store (s.new (.cells cs)) k 3 (.ref (.l s.own.length) 0) (.agg (rcs x y)) = k .dead (s.new (.cells (rcs x y))) := z_stn 3 _ _ rfl h2 rfl
theorem full_nil (n : Nat) : full [] n = List.replicate n (I 0) := by simp [full]
theorem check_inputs {p : Prog} (h : p.check = 0) : 0 ≤ p.inputs ∧ p.inputs ≤ 20 := by
  unfold Prog.check at h
  split at h
  · cases h
  · omega
theorem f3_ok (p : Prog) (inp : List Int) (gi : Gr) (A B b : Int) (s : St) (hv : p.vals.length ≤ 9223372036854775807) (hvv : ∀ v, v ∈ p.vals → v.1.length ≤ 9223372036854775807) (hr : p.enc.refless = true) (h6 : ∃ s', callω T1 G X 6 [] { own := [], up := [], ro := [] } = .ok (.bool true) s') :
    callω T1 G X 3 [p.enc, sl1 inp gi, .agg [I A, I B, I b]] s = .ok (.bool true) s := by
  obtain ⟨s6, h6⟩ := h6
  rw [f3_call, f3_eq]
  have h7 := fun s => f7_ok G X p s hv hvv
  simp -implicitDefEqProofs only [Prog.enc, Prog.cs] at h7
  simp -implicitDefEqProofs only [Prog.enc, Prog.cs, sl1, ↓z_ret, ↓z_val, ↓z_pick, ↓z_cond, ↓z_boxRo_agg, ↓z_boxRo_int, ↓z_boxRo_bool, ↓z_boxRo_str, ↓z_boxRo_sl, ↓z_boxRo_fn, ↓z_boxRo_vptr, ↓z_boxRo_ref, ↓z_len_sl, ↓z_len_msl, ↓z_len_str, ↓z_load1, ↓z_fa, ↓z_fa_ref, ↓z_callF, ↓z_andK, ↓z_orK, ↓z_and1, ↓z_and2, ↓z_and3, ↓z_and4, ↓z_and5, ↓z_and6, ↓z_and7, ↓z_and8, ↓z_and9, ↓z_and10, ↓z_and11, ↓z_and12, ↓z_or1, ↓z_or2, ↓z_or3, ↓z_or4, ↓z_or5, ↓z_or6, ↓z_or7, ↓z_or8, ↓z_or9, ↓z_or10, ↓z_or11, ↓z_or12, ↓z_add, ↓z_sub, ↓z_mul, ↓z_eql, ↓z_neq, ↓z_lss, ↓z_leq, ↓z_gtr, ↓z_geq, ↓z_not, ↓z_neg, ↓z_fin_int, ↓z_fin_bool, ↓z_fin_str, ↓z_ent_int, ↓z_ent_bool, ↓z_ent_str, ↓z_stn, ↓z_ldnn, ↓z_ldn0, ↓z_ldn1, ↓z_ldn2, ↓z_ldn3, ↓z_ldn4, ↓z_ldn5, ↓z_ldn6, ↓z_ldn7, ↓z_ldn8, List.drop_zero, List.drop_succ_cons, List.cons_append, List.nil_append, decide_eq_true_eq, decide_eq_false_iff_not, ite_not, ↓reduceIte, pub_agg, pub_int, pub_bool, pub_str, pub_fn, pub_vptr, pub_nilp, Nat.zero_add, List.length_cons, List.length_nil, Nat.reduceAdd, List.all_cons, List.all_nil, isCell_int, isCell_bool, isCell_str, isCell_sl, Bool.and_self, ↓z_loadn, Nat.reduceLeDiff, Nat.le_refl, List.take_succ_cons, List.take_zero, z_callP rfl h6 rfl, z_call0 (h7 _), List.length_map]
  by_cases c1 : A < 1
  · simp -implicitDefEqProofs only [eq_true c1, decide_true, ↓reduceIte]
  by_cases c2 : 20000 < A
  · simp -implicitDefEqProofs only [eq_false c1, eq_true c2, decide_true, decide_false, Bool.false_eq_true, ↓reduceIte]
  by_cases c3 : B < 1
  · simp -implicitDefEqProofs only [eq_false c1, eq_false c2, eq_true c3, decide_true, decide_false, Bool.false_eq_true, ↓reduceIte]
  by_cases c4 : 20000 < B
  · simp -implicitDefEqProofs only [eq_false c1, eq_false c2, eq_false c3, eq_true c4, decide_true, decide_false, Bool.false_eq_true, ↓reduceIte]
  by_cases c5 : p.check = 0
  rotate_left
  · simp -implicitDefEqProofs only [eq_false c1, eq_false c2, eq_false c3, eq_false c4, eq_false c5, not_false_eq_true, decide_true, decide_false, Bool.false_eq_true, ↓reduceIte]
  by_cases c6 : (inp.length : Int) = p.inputs
  rotate_left
  · simp -implicitDefEqProofs only [eq_false c1, eq_false c2, eq_false c3, eq_false c4, eq_true c5, eq_false c6, not_true_eq_false, not_false_eq_true, decide_true, decide_false, Bool.false_eq_true, ↓reduceIte]
  have hi := check_inputs c5
  have hmk := fun (s : St) (k : K1) => z_make (T := T1) (G := G) (X := X) (s := s) (k := k) (I 0) 8 inp.length inp.length (Nat.le_refl _) (by omega)
  have hAB : IntKind.wrap .i64 (A * B) = A * B := by
    have p1 : 0 ≤ A * B := Int.mul_nonneg (by omega) (by omega)
    have p2 : A * B ≤ 20000 * 20000 := Int.mul_le_mul (by omega) (by omega) (by omega) (by omega)
    exact wrap_in _ (by omega) (by omega)
  have hB : A ≤ A * B := by
    have := Int.mul_le_mul_of_nonneg_left (show (1 : Int) ≤ B by omega) (show (0 : Int) ≤ A by omega)
    omega
  have p2 : A * B ≤ 20000 * 20000 := Int.mul_le_mul (by omega) (by omega) (by omega) (by omega)
  have l2 := f3_l2_ok G X s p (.vptr p.cs) inp gi (A * B) A b (.ok (.bool true) s) (by omega) (f3_j5_ok G X s p inp (A * B) A b hv hvv c6 c5 hr (by omega) (by omega) ⟨B, rfl⟩ hB (by omega)) inp.length 0 (by omega)
  simp -implicitDefEqProofs only [Int.natCast_zero, List.take_zero, List.map_nil, full_nil, Prog.cs] at l2
  simp -implicitDefEqProofs only [eq_false c1, eq_false c2, eq_false c3, eq_false c4, eq_true c5, eq_true c6, not_true_eq_false, not_false_eq_true, decide_true, decide_false, Bool.false_eq_true, ↓reduceIte, f3_j1_eq _ (PP_ok _ _ _), ↓z_ret, ↓z_val, ↓z_pick, ↓z_cond, ↓z_boxRo_agg, ↓z_boxRo_int, ↓z_boxRo_bool, ↓z_boxRo_str, ↓z_boxRo_sl, ↓z_boxRo_fn, ↓z_boxRo_vptr, ↓z_boxRo_ref, ↓z_len_sl, ↓z_len_msl, ↓z_len_str, ↓z_load1, ↓z_fa, ↓z_fa_ref, ↓z_callF, ↓z_andK, ↓z_orK, ↓z_and1, ↓z_and2, ↓z_and3, ↓z_and4, ↓z_and5, ↓z_and6, ↓z_and7, ↓z_and8, ↓z_and9, ↓z_and10, ↓z_and11, ↓z_and12, ↓z_or1, ↓z_or2, ↓z_or3, ↓z_or4, ↓z_or5, ↓z_or6, ↓z_or7, ↓z_or8, ↓z_or9, ↓z_or10, ↓z_or11, ↓z_or12, ↓z_add, ↓z_sub, ↓z_mul, ↓z_eql, ↓z_neq, ↓z_lss, ↓z_leq, ↓z_gtr, ↓z_geq, ↓z_not, ↓z_neg, ↓z_fin_int, ↓z_fin_bool, ↓z_fin_str, ↓z_ent_int, ↓z_ent_bool, ↓z_ent_str, ↓z_stn, ↓z_ldnn, ↓z_ldn0, ↓z_ldn1, ↓z_ldn2, ↓z_ldn3, ↓z_ldn4, ↓z_ldn5, ↓z_ldn6, ↓z_ldn7, ↓z_ldn8, List.drop_zero, List.drop_succ_cons, List.cons_append, List.nil_append, decide_eq_true_eq, decide_eq_false_iff_not, ite_not, ↓reduceIte, pub_agg, pub_int, pub_bool, pub_str, pub_fn, pub_vptr, pub_nilp, Nat.zero_add, List.length_cons, List.length_nil, Nat.reduceAdd, List.all_cons, List.all_nil, isCell_int, isCell_bool, isCell_str, isCell_sl, Bool.and_self, ↓z_loadn, Nat.reduceLeDiff, Nat.le_refl, List.take_succ_cons, List.take_zero, List.length_map, hAB, ↓z_build_rule, ↓z_st_rule G X _ _ _ _ [.int .i64 0, .int .i64 0, .sl 1 [] .nil] rfl, ↓hmk]
  exact l2
end Go.AbD
end
