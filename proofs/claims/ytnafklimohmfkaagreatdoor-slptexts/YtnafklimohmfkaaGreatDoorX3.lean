/- The contracts of some functions of the program, as the abstract evaluator runs them: for every argument that their texts name. -/
import Derived.Test.YtnafklimohmfkaaGreatDoorX1
import Derived.Test.YtnafklimohmfkaaGreatDoorH
import Derived.KernelRfl
section
namespace Go.AbX
open Go.Ab
set_option linter.unusedSimpArgs false
set_option linter.unusedVariables false
set_option maxRecDepth 100000
/-- Decimal digits. -/
def dg (n : Nat) : List Nat := if h : n < 10 then [48 + n] else dg (n / 10) ++ [48 + n % 10]
termination_by n
decreasing_by omega
theorem dg_lt {n : Nat} (h : n < 10) : dg n = [48 + n] := by rw [dg, dif_pos h]
theorem dg_ge {n : Nat} (h : ¬ n < 10) : dg n = dg (n / 10) ++ [48 + n % 10] := by rw [dg, dif_neg h]
theorem dg_len : ∀ n : Nat, (dg n).length ≤ n + 1 := by
  intro n
  induction n using Nat.strongRecOn with
  | _ n ih =>
    by_cases h : n < 10
    · rw [dg_lt h]; simp
    · rw [dg_ge h]
      have := ih (n / 10) (by omega)
      simp
      omega
theorem dg_byte : ∀ n : Nat, ∀ b, b ∈ dg n → b < 256 := by
  intro n
  induction n using Nat.strongRecOn with
  | _ n ih =>
    intro b hb
    by_cases h : n < 10
    · rw [dg_lt h] at hb; simp at hb; omega
    · rw [dg_ge h] at hb
      rcases List.mem_append.1 hb with q | q
      · exact ih (n / 10) (by omega) b q
      · simp at q; omega
def dgI (n : Int) : List Nat := if n < 0 then 45 :: dg (-n).toNat else dg n.toNat
section
variable (G : Nat → AV) (X : Nat → List AV → St → Res)
theorem z_rem' {s : St} {k : K1} (kk : IntKind) (a b : Int) (h : b ≠ 0) : (PP T1 G X).val s k (binV .rem (.int kk a) (.int kk b)) = k (.int kk (a.tmod b)) s := by
  rw [show binV .rem (.int kk a) (.int kk b) = some (.int kk (a.tmod b)) from by simp [binV, intBin, h]]
  rfl
theorem z_quo' {s : St} {k : K1} (kk : IntKind) (a b : Int) (h : b ≠ 0) : (PP T1 G X).val s k (binV .quo (.int kk a) (.int kk b)) = k (.int kk (kk.wrap (a.tdiv b))) s := by
  rw [show binV .quo (.int kk a) (.int kk b) = some (.int kk (kk.wrap (a.tdiv b))) from by simp [binV, intBin, h]]
  rfl
theorem z_sadd {s : St} {k : K1} (a b : List Nat) (h : a.length + b.length ≤ 1099511627776) : (PP T1 G X).val s k (binV .add (.str a) (.str b)) = k (.str (a ++ b)) s := by
  rw [show binV .add (.str a) (.str b) = some (.str (a ++ b)) from by simp [binV, strBin, Nat.ble_eq_true_of_le h]]
  rfl
theorem z_ci (s : St) (k : K1) (d kk : IntKind) (n : Int) : (PP T1 G X).convInt s k d (.int kk n) = k (.int d (d.wrap n)) s := rfl
theorem z_bs1b (s : St) (k : K1) (n : Int) : (PP T1 G X).buildSlice s k 1 [.int .u8 n] = k (.sl 1 [.int .u8 n] .exact) s := rfl
theorem z_b2s (s : St) (k : K1) (n : Nat) (h : n < 256) : (PP T1 G X).bytesToStr s k (.sl 1 [.int .u8 (n : Int)] .exact) = k (.str [n]) s := by
  show bytesToStrV (EV G (callω T1 G X) loopω) s k (.sl 1 [.int .u8 (n : Int)] .exact) = _
  unfold bytesToStrV
  simp -implicitDefEqProofs only [elemsOf, natBytes]
  rw [if_pos (by simpa using h)]
  simp -implicitDefEqProofs only [Option.map_some, oV]
  rfl
theorem u8_in (n : Nat) (h : n < 256) : IntKind.wrap .u8 (n : Int) = (n : Int) := by
  have : ∀ n : Fin 256, IntKind.wrap .u8 ((n : Nat) : Int) = ((n : Nat) : Int) := by decide
  exact this ⟨n, h⟩
theorem f61_ok : ∀ (n : Nat) (s : St), n ≤ 100000 → callω T1 G X 61 [.int .i64 (n : Int)] s = .ok (.str (dg n)) s := by
  intro n
  induction n using Nat.strongRecOn with
  | _ n ih =>
    intro s hn
    have h0 : ¬ (n : Int) < 0 := by omega
    have h10 : (10 : Int) ≠ 0 := by omega
    have e1 : ((n : Int).tmod 10) = ((n % 10 : Nat) : Int) := by rw [Int.tmod_eq_emod_of_nonneg (by omega)]; omega
    have e2 : IntKind.wrap .i64 (48 + ((n % 10 : Nat) : Int)) = ((48 + n % 10 : Nat) : Int) := by
      rw [wrap_in _ (by omega) (by omega)]; omega
    have e3 : IntKind.wrap .u8 ((48 + n % 10 : Nat) : Int) = ((48 + n % 10 : Nat) : Int) := u8_in _ (by omega)
    have hb : 48 + n % 10 < 256 := by omega
    rw [f61_call, f61_eq]
    by_cases h : n < 10
    · have h' : ¬ (10 : Int) ≤ (n : Int) := by omega
      simp -implicitDefEqProofs only [↓z_ret, ↓z_val, ↓z_pick, ↓z_cond, ↓z_boxRo_agg, ↓z_boxRo_int, ↓z_boxRo_bool, ↓z_boxRo_str, ↓z_boxRo_sl, ↓z_boxRo_fn, ↓z_boxRo_vptr, ↓z_boxRo_ref, ↓z_len_sl, ↓z_len_msl, ↓z_len_str, ↓z_load1, ↓z_fa, ↓z_fa_ref, ↓z_callF, ↓z_andK, ↓z_orK, ↓z_and1, ↓z_and2, ↓z_and3, ↓z_and4, ↓z_and5, ↓z_and6, ↓z_and7, ↓z_and8, ↓z_and9, ↓z_and10, ↓z_and11, ↓z_and12, ↓z_or1, ↓z_or2, ↓z_or3, ↓z_or4, ↓z_or5, ↓z_or6, ↓z_or7, ↓z_or8, ↓z_or9, ↓z_or10, ↓z_or11, ↓z_or12, ↓z_add, ↓z_sub, ↓z_mul, ↓z_eql, ↓z_neq, ↓z_lss, ↓z_leq, ↓z_gtr, ↓z_geq, ↓z_not, ↓z_neg, ↓z_fin_int, ↓z_fin_bool, ↓z_fin_str, ↓z_ent_int, ↓z_ent_bool, ↓z_ent_str, ↓z_stn, ↓z_ldnn, ↓z_ldn0, ↓z_ldn1, ↓z_ldn2, ↓z_ldn3, ↓z_ldn4, ↓z_ldn5, ↓z_ldn6, ↓z_ldn7, ↓z_ldn8, List.drop_zero, List.drop_succ_cons, List.cons_append, List.nil_append, decide_eq_true_eq, decide_eq_false_iff_not, ite_not, ↓reduceIte, pub_agg, pub_int, pub_bool, pub_str, pub_fn, pub_vptr, pub_nilp, Nat.zero_add, List.length_cons, List.length_nil, Nat.reduceAdd, List.all_cons, List.all_nil, isCell_int, isCell_bool, isCell_str, isCell_sl, Bool.and_self, ↓z_loadn, Nat.reduceLeDiff, Nat.le_refl, List.take_succ_cons, List.take_zero, eq_false h0, decide_false, Bool.false_eq_true, f61_j1_eq _ (PP_ok _ _ _), ↓z_rem' G X _ _ _ h10, e1, e2, ↓z_ci, e3, ↓z_bs1b, ↓z_b2s G X _ _ _ hb, eq_false h', f61_j2_eq _ (PP_ok _ _ _)]
      rw [dg_lt h, Nat.mod_eq_of_lt h]
    · have h' : (10 : Int) ≤ (n : Int) := by omega
      have e4 : IntKind.wrap .i64 ((n : Int).tdiv 10) = ((n / 10 : Nat) : Int) := by
        rw [Int.tdiv_eq_ediv_of_nonneg (by omega), wrap_in _ (by omega) (by omega)]; omega
      have hi := ih (n / 10) (by omega) s.enter (by omega)
      have hl := dg_len (n / 10)
      have hsa := fun (s : St) (k : K1) => z_sadd G X (s := s) (k := k) (dg (n / 10)) [48 + n % 10] (by simp; omega)
      simp -implicitDefEqProofs only [↓z_ret, ↓z_val, ↓z_pick, ↓z_cond, ↓z_boxRo_agg, ↓z_boxRo_int, ↓z_boxRo_bool, ↓z_boxRo_str, ↓z_boxRo_sl, ↓z_boxRo_fn, ↓z_boxRo_vptr, ↓z_boxRo_ref, ↓z_len_sl, ↓z_len_msl, ↓z_len_str, ↓z_load1, ↓z_fa, ↓z_fa_ref, ↓z_callF, ↓z_andK, ↓z_orK, ↓z_and1, ↓z_and2, ↓z_and3, ↓z_and4, ↓z_and5, ↓z_and6, ↓z_and7, ↓z_and8, ↓z_and9, ↓z_and10, ↓z_and11, ↓z_and12, ↓z_or1, ↓z_or2, ↓z_or3, ↓z_or4, ↓z_or5, ↓z_or6, ↓z_or7, ↓z_or8, ↓z_or9, ↓z_or10, ↓z_or11, ↓z_or12, ↓z_add, ↓z_sub, ↓z_mul, ↓z_eql, ↓z_neq, ↓z_lss, ↓z_leq, ↓z_gtr, ↓z_geq, ↓z_not, ↓z_neg, ↓z_fin_int, ↓z_fin_bool, ↓z_fin_str, ↓z_ent_int, ↓z_ent_bool, ↓z_ent_str, ↓z_stn, ↓z_ldnn, ↓z_ldn0, ↓z_ldn1, ↓z_ldn2, ↓z_ldn3, ↓z_ldn4, ↓z_ldn5, ↓z_ldn6, ↓z_ldn7, ↓z_ldn8, List.drop_zero, List.drop_succ_cons, List.cons_append, List.nil_append, decide_eq_true_eq, decide_eq_false_iff_not, ite_not, ↓reduceIte, pub_agg, pub_int, pub_bool, pub_str, pub_fn, pub_vptr, pub_nilp, Nat.zero_add, List.length_cons, List.length_nil, Nat.reduceAdd, List.all_cons, List.all_nil, isCell_int, isCell_bool, isCell_str, isCell_sl, Bool.and_self, ↓z_loadn, Nat.reduceLeDiff, Nat.le_refl, List.take_succ_cons, List.take_zero, eq_false h0, decide_false, Bool.false_eq_true, f61_j1_eq _ (PP_ok _ _ _), ↓z_rem' G X _ _ _ h10, e1, e2, ↓z_ci, e3, ↓z_bs1b, ↓z_b2s G X _ _ _ hb, eq_true h', decide_true, ↓z_quo' G X _ _ _ h10, e4, z_call0 hi, ↓hsa]
      rw [dg_ge h]
theorem f61_dgI (n : Int) (s : St) (h1 : -100000 ≤ n) (h2 : n ≤ 100000) : callω T1 G X 61 [.int .i64 n] s = .ok (.str (dgI n)) s := by
  unfold dgI
  by_cases h : n < 0
  · rw [if_pos h, f61_call, f61_eq]
    have e : IntKind.wrap .i64 (0 - n) = ((-n).toNat : Int) := by
      rw [wrap_in _ (by omega) (by omega)]; omega
    have hi := f61_ok G X (-n).toNat s.enter (by omega)
    have hl := dg_len (-n).toNat
    have hsa := fun (s : St) (k : K1) => z_sadd G X (s := s) (k := k) [45] (dg (-n).toNat) (by simp; omega)
    simp -implicitDefEqProofs only [↓z_ret, ↓z_val, ↓z_pick, ↓z_cond, ↓z_boxRo_agg, ↓z_boxRo_int, ↓z_boxRo_bool, ↓z_boxRo_str, ↓z_boxRo_sl, ↓z_boxRo_fn, ↓z_boxRo_vptr, ↓z_boxRo_ref, ↓z_len_sl, ↓z_len_msl, ↓z_len_str, ↓z_load1, ↓z_fa, ↓z_fa_ref, ↓z_callF, ↓z_andK, ↓z_orK, ↓z_and1, ↓z_and2, ↓z_and3, ↓z_and4, ↓z_and5, ↓z_and6, ↓z_and7, ↓z_and8, ↓z_and9, ↓z_and10, ↓z_and11, ↓z_and12, ↓z_or1, ↓z_or2, ↓z_or3, ↓z_or4, ↓z_or5, ↓z_or6, ↓z_or7, ↓z_or8, ↓z_or9, ↓z_or10, ↓z_or11, ↓z_or12, ↓z_add, ↓z_sub, ↓z_mul, ↓z_eql, ↓z_neq, ↓z_lss, ↓z_leq, ↓z_gtr, ↓z_geq, ↓z_not, ↓z_neg, ↓z_fin_int, ↓z_fin_bool, ↓z_fin_str, ↓z_ent_int, ↓z_ent_bool, ↓z_ent_str, ↓z_stn, ↓z_ldnn, ↓z_ldn0, ↓z_ldn1, ↓z_ldn2, ↓z_ldn3, ↓z_ldn4, ↓z_ldn5, ↓z_ldn6, ↓z_ldn7, ↓z_ldn8, List.drop_zero, List.drop_succ_cons, List.cons_append, List.nil_append, decide_eq_true_eq, decide_eq_false_iff_not, ite_not, ↓reduceIte, pub_agg, pub_int, pub_bool, pub_str, pub_fn, pub_vptr, pub_nilp, Nat.zero_add, List.length_cons, List.length_nil, Nat.reduceAdd, List.all_cons, List.all_nil, isCell_int, isCell_bool, isCell_str, isCell_sl, Bool.and_self, ↓z_loadn, Nat.reduceLeDiff, Nat.le_refl, List.take_succ_cons, List.take_zero, eq_true h, decide_true, e, z_call0 hi, ↓hsa]
  · rw [if_neg h]
    have := f61_ok G X n.toNat s (by omega)
    rw [show ((n.toNat : Nat) : Int) = n by omega] at this
    exact this
end
end Go.AbX
end
section
namespace Go.AbX
open Go.Ab
set_option linter.unusedSimpArgs false
set_option linter.unusedVariables false
set_option maxRecDepth 100000
def pows : List Int := [1, 10, 100, 1000, 10000, 100000, 1000000, 10000000, 100000000, 1000000000, 10000000000, 100000000000, 1000000000000, 10000000000000, 100000000000000, 1000000000000000, 10000000000000000, 100000000000000000, 1000000000000000000, 10000000000000000000]
def powCs : List AV := pows.map fun n => .int .u64 n
section
variable (G : Nat → AV) (X : Nat → List AV → St → Res)
theorem z_idxS {s : St} {k : K1} (bs : List Nat) (kk : IntKind) (i : Nat) (b : Nat) (h : bs[i]? = some b) : (PP T1 G X).idxStr s k (.str bs) (.int kk (i : Int)) = k (.int .u8 b) s := by
  show idxStrV (EV G (callω T1 G X) loopω) s k (.str bs) (.int kk (i : Int)) = _
  unfold idxStrV
  simp -implicitDefEqProofs only [asNat_nat, h]
  rfl
theorem z_idxA {s : St} {k : K1} (cs : List AV) (n : Nat) (kk : IntKind) (i : Nat) (h : i < n) : (PP T1 G X).idxArr s k 1 n (.vptr cs) (.int kk (i : Int)) = k (.vptr (cs.drop i)) s := by
  show idxArrV (EV G (callω T1 G X) loopω) s k 1 n (.vptr cs) (.int kk (i : Int)) = _
  unfold idxArrV
  simp -implicitDefEqProofs only [asNat_nat, show Nat.blt i n = true from by simp [Nat.blt_eq, h], cond_true, Nat.mul_one]
  rfl
theorem z_shr {s : St} {k : K1} (kk kk2 : IntKind) (a b : Int) (hb : 0 ≤ b) : (PP T1 G X).val s k (binV .shr (.int kk a) (.int kk2 b)) = k (.int kk (a.fdiv (2 ^ (min b.toNat kk.bits)))) s := by
  rw [show binV .shr (.int kk a) (.int kk2 b) = some (.int kk (a.fdiv (2 ^ (min b.toNat kk.bits)))) from by simp [binV, shiftV, Int.not_lt.2 hb]]
  rfl
theorem u64_in (n : Nat) (h : n < 18446744073709551616) : IntKind.wrap .u64 (n : Int) = (n : Int) := by
  show (n : Int) % (2 ^ 64 : Nat) = _
  omega
end
end Go.AbX
end
