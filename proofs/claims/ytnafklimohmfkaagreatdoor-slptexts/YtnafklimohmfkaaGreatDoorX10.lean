/- The contracts of some functions of the program, as the abstract evaluator runs them: for every argument that their texts name. -/
import Derived.Test.YtnafklimohmfkaaGreatDoorX6
section
namespace Go.AbX
open Go.Ab
set_option linter.unusedSimpArgs false
set_option linter.unusedVariables false
set_option maxRecDepth 100000
theorem dg_len4 (n : Nat) (h : n < 10000) : (dg n).length ≤ 4 := by
  by_cases h1 : n < 10
  · rw [dg_lt h1]; simp
  by_cases h2 : n < 100
  · rw [dg_ge h1, dg_lt (by omega)]; simp
  by_cases h3 : n < 1000
  · rw [dg3 n (by omega) h3]; simp
  · rw [dg4 n (by omega) h]; simp
theorem dgI_len5 (n : Int) (h : -10000 < n ∧ n < 10000) : (dgI n).length ≤ 5 := by
  unfold dgI
  split
  · have := dg_len4 (-n).toNat (by omega)
    simp; omega
  · have := dg_len4 n.toNat (by omega)
    omega
theorem dgI_byte (n : Int) : ∀ b, b ∈ dgI n → b < 256 := by
  intro b hb
  unfold dgI at hb
  split at hb
  · rcases List.mem_cons.1 hb with q | q
    · omega
    · exact dg_byte _ _ q
  · exact dg_byte _ _ hb
/-- What a line says of an instruction. -/
def bodyT (x : Ins) : List Nat :=
  if x.op = 1 then [105, 110, 32] ++ dgI x.a
  else if x.op = 2 then [99, 111, 110, 115, 116, 32] ++ dgI x.a
  else if x.op = 6 then [114, 111, 111, 116, 32, 114] ++ dgI x.a
  else if x.op = 3 then [114] ++ dgI x.a ++ [32, 43, 32, 114] ++ dgI x.b
  else if x.op = 4 then [114] ++ dgI x.a ++ [32, 45, 32, 114] ++ dgI x.b
  else [114] ++ dgI x.a ++ [32, 42, 32, 114] ++ dgI x.b
def lineT (i : Nat) (x : Ins) : List Nat := [114] ++ dgI (i : Int) ++ [32, 61, 32] ++ bodyT x ++ [10]
def linesT : List Ins → Nat → List Nat
  | [], _ => []
  | x :: xs, i => lineT i x ++ linesT xs (i + 1)
/-- Its numbers are small. -/
def smallI (x : Ins) : Prop := (-10000 < x.a ∧ x.a < 10000) ∧ (-10000 < x.b ∧ x.b < 10000)
theorem okIns_small {x : Ins} {i : Nat} {inputs : Int} (h : okIns x i inputs = true) (hi : i < 8192) (hin : inputs ≤ 20) : smallI x := by
  unfold okIns at h
  unfold smallI
  split at h
  · simp at h; omega
  split at h
  · simp at h; omega
  split at h
  · simp at h; omega
  split at h
  · simp at h; omega
  · cases h
theorem bodyT_len {x : Ins} (h : smallI x) : (bodyT x).length ≤ 20 := by
  have a := dgI_len5 x.a h.1
  have b := dgI_len5 x.b h.2
  unfold bodyT
  repeat' split
  all_goals simp; omega
theorem lineT_len {x : Ins} {i : Nat} (h : smallI x) (hi : i < 8192) : (lineT i x).length ≤ 30 := by
  have a := dgI_len5 (i : Int) (by omega)
  have b := bodyT_len h
  unfold lineT
  simp; omega
theorem byt_app {a b : List Nat} (ha : ∀ c, c ∈ a → c < 256) (hb : ∀ c, c ∈ b → c < 256) : ∀ c, c ∈ a ++ b → c < 256 := fun c h => (List.mem_append.1 h).elim (ha c) (hb c)
theorem bodyT_byte (x : Ins) : ∀ b, b ∈ bodyT x → b < 256 := by
  unfold bodyT
  split
  · exact byt_app (by decide) (dgI_byte _)
  split
  · exact byt_app (by decide) (dgI_byte _)
  split
  · exact byt_app (by decide) (dgI_byte _)
  split
  · exact byt_app (byt_app (byt_app (by decide) (dgI_byte _)) (by decide)) (dgI_byte _)
  split
  · exact byt_app (byt_app (byt_app (by decide) (dgI_byte _)) (by decide)) (dgI_byte _)
  · exact byt_app (byt_app (byt_app (by decide) (dgI_byte _)) (by decide)) (dgI_byte _)
theorem lineT_byte (x : Ins) (i : Nat) : ∀ b, b ∈ lineT i x → b < 256 :=
  byt_app (byt_app (byt_app (byt_app (by decide) (dgI_byte _)) (by decide)) (bodyT_byte x)) (by decide)
def okAll (inputs : Int) : List Ins → Nat → Bool
  | [], _ => true
  | x :: xs, i => okIns x i inputs && okAll inputs xs (i + 1)
theorem okAll_scan (roots : List Int) (inputs : Int) : ∀ (xs : List Ins) (i nx m : Nat), scan roots inputs xs i nx = some m → okAll inputs xs i = true
  | [], _, _, _, _ => rfl
  | x :: xs, i, nx, m, h => by
    simp -implicitDefEqProofs only [scan] at h
    split at h
    · rename_i hok
      simp -implicitDefEqProofs only [okAll, hok, Bool.true_and]
      split at h
      · split at h
        · exact okAll_scan roots inputs xs _ _ m h
        · cases h
      · exact okAll_scan roots inputs xs _ _ m h
    · cases h
theorem okIns_op {x : Ins} {i inputs : Int} (h : okIns x i inputs = true) : x.op = 1 ∨ x.op = 2 ∨ x.op = 3 ∨ x.op = 4 ∨ x.op = 5 ∨ x.op = 6 := by
  unfold okIns at h
  split at h
  · omega
  split at h
  · omega
  split at h
  · omega
  split at h
  · omega
  · cases h
theorem check0 {p : Prog} (h : p.check = 0) : p.ins.length ≤ 8192 ∧ p.inputs ≤ 20 ∧ okAll p.inputs p.ins 0 = true := by
  unfold Prog.check at h
  split at h
  · cases h
  · rename_i h1
    split at h
    · rename_i h2
      exact ⟨by omega, by omega, okAll_scan _ _ _ _ _ _ h2.1⟩
    · cases h
section
variable (G : Nat → AV) (X : Nat → List AV → St → Res)
theorem append_elems {S : St} {k : K1} {q b : Nat} {at_ : Option Ab.Loc} {x y : AV} {new : List AV} (hy : elemsOf S y = some (q, new)) : (PP T1 G X).append S k q b at_ x y = (PP T1 G X).append S k q b at_ x (.sl q new .exact) := by
  rw [zz_append, zz_append]
  unfold appendOp
  cases at_ with
  | none => rfl
  | some a =>
    simp -implicitDefEqProofs only
    unfold appendV
    rw [hy]
    rfl
theorem natBytes_map : ∀ bs : List Nat, (∀ b, b ∈ bs → b < 256) → natBytes (bs.map B) = some bs
  | [], _ => rfl
  | b :: bs, h => by
    have hb := h b (by simp)
    simp -implicitDefEqProofs only [List.map_cons, B, natBytes]
    rw [if_pos (by simpa using hb)]
    have ih := natBytes_map bs (fun c hc => h c (by simp [hc]))
    rw [ih]
    simp
theorem z_b2s_all (s : St) (k : K1) (bs : List Nat) (g : Gr) (h : ∀ b, b ∈ bs → b < 256) : (PP T1 G X).bytesToStr s k (.sl 1 (bs.map B) g) = k (.str bs) s := by
  show bytesToStrV (EV G (callω T1 G X) loopω) s k (.sl 1 (bs.map B) g) = _
  unfold bytesToStrV
  simp -implicitDefEqProofs only [elemsOf, natBytes_map bs h]
  rfl
theorem f34_j3_ok (p : Prog) (x : Ins) (i : Nat) (hi : i < 8192) (hx : p.ins[i]? = some x) (hok : okIns x i p.inputs = true) (hin : p.inputs ≤ 20) (S : St) (v5 : AV) (R : Res)
    (hk : f34_j4 (PP T1 G X) (.vptr p.cs) v5 (.int .i64 (i : Int)) (.str ([114] ++ dgI (i : Int) ++ [32, 61, 32] ++ bodyT x)) (S.new (.cells [I x.op, I x.a, I x.b])) = R) :
    f34_j3 (PP T1 G X) (.vptr p.cs) v5 (.int .i64 (i : Int)) S = R := by
  have ea : (p.ins.map Ins.enc)[i]? = some x.enc := by simp [hx]
  have sm := okIns_small hok hi hin
  have hop := okIns_op hok
  have hci := fun s => f61_dgI G X (i : Int) s (by omega) (by omega)
  have hca := fun s => f61_dgI G X x.a s (by have := sm.1; omega) (by have := sm.1; omega)
  have hcb := fun s => f61_dgI G X x.b s (by have := sm.2; omega) (by have := sm.2; omega)
  have hr1 : ∀ n : Int, AV.reflessL [I n] = true := fun _ => rfl
  have hr2 : ∀ l : List Nat, (AV.str l).refless = true := fun _ => rfl
  have li := dgI_len5 (i : Int) (by omega)
  have la := dgI_len5 x.a sm.1
  have lb := dgI_len5 x.b sm.2
  have t1 := fun (s : St) (k : K1) => z_sadd G X (s := s) (k := k) [114] (dgI (i : Int)) (by simp; omega)
  have t2 := fun (s : St) (k : K1) => z_sadd G X (s := s) (k := k) ([114] ++ dgI (i : Int)) [32, 61, 32] (by simp; omega)
  generalize hP : [114] ++ dgI (i : Int) ++ [32, 61, 32] = P at *
  have lP : P.length ≤ 9 := by rw [← hP]; simp; omega
  simp -implicitDefEqProofs only [List.cons_append, List.nil_append] at t1 t2 hP
  by_cases h1 : x.op = 1
  · have q1 := eq_true h1
    have t3 := fun (s : St) (k : K1) => z_sadd G X (s := s) (k := k) P [105, 110, 32] (by simp; omega)
    have t4 := fun (s : St) (k : K1) => z_sadd G X (s := s) (k := k) (P ++ [105, 110, 32]) (dgI x.a) (by simp; omega)
    rw [bodyT] at hk
    simp -implicitDefEqProofs only [q1, if_true, if_false, ← List.append_assoc] at hk
    rw [f34_j3_eq _ (PP_ok _ _ _)]
    simp -implicitDefEqProofs only [Prog.cs, ↓z_ret, ↓z_val, ↓z_pick, ↓z_cond, ↓z_boxRo_agg, ↓z_boxRo_int, ↓z_boxRo_bool, ↓z_boxRo_str, ↓z_boxRo_sl, ↓z_boxRo_fn, ↓z_boxRo_vptr, ↓z_boxRo_ref, ↓z_len_sl, ↓z_len_msl, ↓z_len_str, ↓z_load1, ↓z_fa, ↓z_fa_ref, ↓z_callF, ↓z_andK, ↓z_orK, ↓z_and1, ↓z_and2, ↓z_and3, ↓z_and4, ↓z_and5, ↓z_and6, ↓z_and7, ↓z_and8, ↓z_and9, ↓z_and10, ↓z_and11, ↓z_and12, ↓z_or1, ↓z_or2, ↓z_or3, ↓z_or4, ↓z_or5, ↓z_or6, ↓z_or7, ↓z_or8, ↓z_or9, ↓z_or10, ↓z_or11, ↓z_or12, ↓z_add, ↓z_sub, ↓z_mul, ↓z_eql, ↓z_neq, ↓z_lss, ↓z_leq, ↓z_gtr, ↓z_geq, ↓z_not, ↓z_neg, ↓z_fin_int, ↓z_fin_bool, ↓z_fin_str, ↓z_ent_int, ↓z_ent_bool, ↓z_ent_str, ↓z_stn, ↓z_ldnn, ↓z_ldn0, ↓z_ldn1, ↓z_ldn2, ↓z_ldn3, ↓z_ldn4, ↓z_ldn5, ↓z_ldn6, ↓z_ldn7, ↓z_ldn8, List.drop_zero, List.drop_succ_cons, List.cons_append, List.nil_append, decide_eq_true_eq, decide_eq_false_iff_not, ite_not, ↓reduceIte, pub_agg, pub_int, pub_bool, pub_str, pub_fn, pub_vptr, pub_nilp, Nat.zero_add, List.length_cons, List.length_nil, Nat.reduceAdd, List.all_cons, List.all_nil, isCell_int, isCell_bool, isCell_str, isCell_sl, Bool.and_self, ↓z_loadn, Nat.reduceLeDiff, Nat.le_refl, List.take_succ_cons, List.take_zero, z_idx _ _ _ _ _ _ ea, Ins.enc, Ins.cs, AV.cells, z_call0 (hci _), ↓t1, ↓t2, hP, q1, decide_true, decide_false, Bool.false_eq_true, z_call0 (hca _), z_call0 (hcb _), z_callP (hr1 _) (hca _) (hr2 _), ↓t3, ↓t4]
    exact hk
  have q1 := eq_false h1
  by_cases h2 : x.op = 2
  · have q2 := eq_true h2
    have t3 := fun (s : St) (k : K1) => z_sadd G X (s := s) (k := k) P [99, 111, 110, 115, 116, 32] (by simp; omega)
    have t4 := fun (s : St) (k : K1) => z_sadd G X (s := s) (k := k) (P ++ [99, 111, 110, 115, 116, 32]) (dgI x.a) (by simp; omega)
    rw [bodyT] at hk
    simp -implicitDefEqProofs only [q1, q2, if_true, if_false, ← List.append_assoc] at hk
    rw [f34_j3_eq _ (PP_ok _ _ _)]
    simp -implicitDefEqProofs only [Prog.cs, ↓z_ret, ↓z_val, ↓z_pick, ↓z_cond, ↓z_boxRo_agg, ↓z_boxRo_int, ↓z_boxRo_bool, ↓z_boxRo_str, ↓z_boxRo_sl, ↓z_boxRo_fn, ↓z_boxRo_vptr, ↓z_boxRo_ref, ↓z_len_sl, ↓z_len_msl, ↓z_len_str, ↓z_load1, ↓z_fa, ↓z_fa_ref, ↓z_callF, ↓z_andK, ↓z_orK, ↓z_and1, ↓z_and2, ↓z_and3, ↓z_and4, ↓z_and5, ↓z_and6, ↓z_and7, ↓z_and8, ↓z_and9, ↓z_and10, ↓z_and11, ↓z_and12, ↓z_or1, ↓z_or2, ↓z_or3, ↓z_or4, ↓z_or5, ↓z_or6, ↓z_or7, ↓z_or8, ↓z_or9, ↓z_or10, ↓z_or11, ↓z_or12, ↓z_add, ↓z_sub, ↓z_mul, ↓z_eql, ↓z_neq, ↓z_lss, ↓z_leq, ↓z_gtr, ↓z_geq, ↓z_not, ↓z_neg, ↓z_fin_int, ↓z_fin_bool, ↓z_fin_str, ↓z_ent_int, ↓z_ent_bool, ↓z_ent_str, ↓z_stn, ↓z_ldnn, ↓z_ldn0, ↓z_ldn1, ↓z_ldn2, ↓z_ldn3, ↓z_ldn4, ↓z_ldn5, ↓z_ldn6, ↓z_ldn7, ↓z_ldn8, List.drop_zero, List.drop_succ_cons, List.cons_append, List.nil_append, decide_eq_true_eq, decide_eq_false_iff_not, ite_not, ↓reduceIte, pub_agg, pub_int, pub_bool, pub_str, pub_fn, pub_vptr, pub_nilp, Nat.zero_add, List.length_cons, List.length_nil, Nat.reduceAdd, List.all_cons, List.all_nil, isCell_int, isCell_bool, isCell_str, isCell_sl, Bool.and_self, ↓z_loadn, Nat.reduceLeDiff, Nat.le_refl, List.take_succ_cons, List.take_zero, z_idx _ _ _ _ _ _ ea, Ins.enc, Ins.cs, AV.cells, z_call0 (hci _), ↓t1, ↓t2, hP, q1, q2, decide_true, decide_false, Bool.false_eq_true, z_call0 (hca _), z_call0 (hcb _), z_callP (hr1 _) (hca _) (hr2 _), ↓t3, ↓t4]
    exact hk
  have q2 := eq_false h2
  by_cases h6 : x.op = 6
  · have q6 := eq_true h6
    have t3 := fun (s : St) (k : K1) => z_sadd G X (s := s) (k := k) P [114, 111, 111, 116, 32, 114] (by simp; omega)
    have t4 := fun (s : St) (k : K1) => z_sadd G X (s := s) (k := k) (P ++ [114, 111, 111, 116, 32, 114]) (dgI x.a) (by simp; omega)
    rw [bodyT] at hk
    simp -implicitDefEqProofs only [q1, q2, q6, if_true, if_false, ← List.append_assoc] at hk
    rw [f34_j3_eq _ (PP_ok _ _ _)]
    simp -implicitDefEqProofs only [Prog.cs, ↓z_ret, ↓z_val, ↓z_pick, ↓z_cond, ↓z_boxRo_agg, ↓z_boxRo_int, ↓z_boxRo_bool, ↓z_boxRo_str, ↓z_boxRo_sl, ↓z_boxRo_fn, ↓z_boxRo_vptr, ↓z_boxRo_ref, ↓z_len_sl, ↓z_len_msl, ↓z_len_str, ↓z_load1, ↓z_fa, ↓z_fa_ref, ↓z_callF, ↓z_andK, ↓z_orK, ↓z_and1, ↓z_and2, ↓z_and3, ↓z_and4, ↓z_and5, ↓z_and6, ↓z_and7, ↓z_and8, ↓z_and9, ↓z_and10, ↓z_and11, ↓z_and12, ↓z_or1, ↓z_or2, ↓z_or3, ↓z_or4, ↓z_or5, ↓z_or6, ↓z_or7, ↓z_or8, ↓z_or9, ↓z_or10, ↓z_or11, ↓z_or12, ↓z_add, ↓z_sub, ↓z_mul, ↓z_eql, ↓z_neq, ↓z_lss, ↓z_leq, ↓z_gtr, ↓z_geq, ↓z_not, ↓z_neg, ↓z_fin_int, ↓z_fin_bool, ↓z_fin_str, ↓z_ent_int, ↓z_ent_bool, ↓z_ent_str, ↓z_stn, ↓z_ldnn, ↓z_ldn0, ↓z_ldn1, ↓z_ldn2, ↓z_ldn3, ↓z_ldn4, ↓z_ldn5, ↓z_ldn6, ↓z_ldn7, ↓z_ldn8, List.drop_zero, List.drop_succ_cons, List.cons_append, List.nil_append, decide_eq_true_eq, decide_eq_false_iff_not, ite_not, ↓reduceIte, pub_agg, pub_int, pub_bool, pub_str, pub_fn, pub_vptr, pub_nilp, Nat.zero_add, List.length_cons, List.length_nil, Nat.reduceAdd, List.all_cons, List.all_nil, isCell_int, isCell_bool, isCell_str, isCell_sl, Bool.and_self, ↓z_loadn, Nat.reduceLeDiff, Nat.le_refl, List.take_succ_cons, List.take_zero, z_idx _ _ _ _ _ _ ea, Ins.enc, Ins.cs, AV.cells, z_call0 (hci _), ↓t1, ↓t2, hP, q1, q2, q6, decide_true, decide_false, Bool.false_eq_true, z_call0 (hca _), z_call0 (hcb _), z_callP (hr1 _) (hca _) (hr2 _), ↓t3, ↓t4]
    exact hk
  have q6 := eq_false h6
  by_cases h3 : x.op = 3
  · have q3 := eq_true h3
    have t3 := fun (s : St) (k : K1) => z_sadd G X (s := s) (k := k) P [114] (by simp; omega)
    have t4 := fun (s : St) (k : K1) => z_sadd G X (s := s) (k := k) (P ++ [114]) (dgI x.a) (by simp; omega)
    have t5 := fun (s : St) (k : K1) => z_sadd G X (s := s) (k := k) (P ++ [114] ++ dgI x.a) [32, 43, 32, 114] (by simp; omega)
    have t6 := fun (s : St) (k : K1) => z_sadd G X (s := s) (k := k) (P ++ [114] ++ dgI x.a ++ [32, 43, 32, 114]) (dgI x.b) (by simp; omega)
    rw [bodyT] at hk
    simp -implicitDefEqProofs only [q1, q2, q6, q3, if_true, if_false, ← List.append_assoc] at hk
    rw [f34_j3_eq _ (PP_ok _ _ _)]
    simp -implicitDefEqProofs only [Prog.cs, ↓z_ret, ↓z_val, ↓z_pick, ↓z_cond, ↓z_boxRo_agg, ↓z_boxRo_int, ↓z_boxRo_bool, ↓z_boxRo_str, ↓z_boxRo_sl, ↓z_boxRo_fn, ↓z_boxRo_vptr, ↓z_boxRo_ref, ↓z_len_sl, ↓z_len_msl, ↓z_len_str, ↓z_load1, ↓z_fa, ↓z_fa_ref, ↓z_callF, ↓z_andK, ↓z_orK, ↓z_and1, ↓z_and2, ↓z_and3, ↓z_and4, ↓z_and5, ↓z_and6, ↓z_and7, ↓z_and8, ↓z_and9, ↓z_and10, ↓z_and11, ↓z_and12, ↓z_or1, ↓z_or2, ↓z_or3, ↓z_or4, ↓z_or5, ↓z_or6, ↓z_or7, ↓z_or8, ↓z_or9, ↓z_or10, ↓z_or11, ↓z_or12, ↓z_add, ↓z_sub, ↓z_mul, ↓z_eql, ↓z_neq, ↓z_lss, ↓z_leq, ↓z_gtr, ↓z_geq, ↓z_not, ↓z_neg, ↓z_fin_int, ↓z_fin_bool, ↓z_fin_str, ↓z_ent_int, ↓z_ent_bool, ↓z_ent_str, ↓z_stn, ↓z_ldnn, ↓z_ldn0, ↓z_ldn1, ↓z_ldn2, ↓z_ldn3, ↓z_ldn4, ↓z_ldn5, ↓z_ldn6, ↓z_ldn7, ↓z_ldn8, List.drop_zero, List.drop_succ_cons, List.cons_append, List.nil_append, decide_eq_true_eq, decide_eq_false_iff_not, ite_not, ↓reduceIte, pub_agg, pub_int, pub_bool, pub_str, pub_fn, pub_vptr, pub_nilp, Nat.zero_add, List.length_cons, List.length_nil, Nat.reduceAdd, List.all_cons, List.all_nil, isCell_int, isCell_bool, isCell_str, isCell_sl, Bool.and_self, ↓z_loadn, Nat.reduceLeDiff, Nat.le_refl, List.take_succ_cons, List.take_zero, z_idx _ _ _ _ _ _ ea, Ins.enc, Ins.cs, AV.cells, z_call0 (hci _), ↓t1, ↓t2, hP, q1, q2, q6, q3, decide_true, decide_false, Bool.false_eq_true, z_call0 (hca _), z_call0 (hcb _), z_callP (hr1 _) (hca _) (hr2 _), ↓t3, ↓t4, ↓t5, ↓t6]
    exact hk
  have q3 := eq_false h3
  by_cases h4 : x.op = 4
  · have q4 := eq_true h4
    have t3 := fun (s : St) (k : K1) => z_sadd G X (s := s) (k := k) P [114] (by simp; omega)
    have t4 := fun (s : St) (k : K1) => z_sadd G X (s := s) (k := k) (P ++ [114]) (dgI x.a) (by simp; omega)
    have t5 := fun (s : St) (k : K1) => z_sadd G X (s := s) (k := k) (P ++ [114] ++ dgI x.a) [32, 45, 32, 114] (by simp; omega)
    have t6 := fun (s : St) (k : K1) => z_sadd G X (s := s) (k := k) (P ++ [114] ++ dgI x.a ++ [32, 45, 32, 114]) (dgI x.b) (by simp; omega)
    rw [bodyT] at hk
    simp -implicitDefEqProofs only [q1, q2, q6, q3, q4, if_true, if_false, ← List.append_assoc] at hk
    rw [f34_j3_eq _ (PP_ok _ _ _)]
    simp -implicitDefEqProofs only [Prog.cs, ↓z_ret, ↓z_val, ↓z_pick, ↓z_cond, ↓z_boxRo_agg, ↓z_boxRo_int, ↓z_boxRo_bool, ↓z_boxRo_str, ↓z_boxRo_sl, ↓z_boxRo_fn, ↓z_boxRo_vptr, ↓z_boxRo_ref, ↓z_len_sl, ↓z_len_msl, ↓z_len_str, ↓z_load1, ↓z_fa, ↓z_fa_ref, ↓z_callF, ↓z_andK, ↓z_orK, ↓z_and1, ↓z_and2, ↓z_and3, ↓z_and4, ↓z_and5, ↓z_and6, ↓z_and7, ↓z_and8, ↓z_and9, ↓z_and10, ↓z_and11, ↓z_and12, ↓z_or1, ↓z_or2, ↓z_or3, ↓z_or4, ↓z_or5, ↓z_or6, ↓z_or7, ↓z_or8, ↓z_or9, ↓z_or10, ↓z_or11, ↓z_or12, ↓z_add, ↓z_sub, ↓z_mul, ↓z_eql, ↓z_neq, ↓z_lss, ↓z_leq, ↓z_gtr, ↓z_geq, ↓z_not, ↓z_neg, ↓z_fin_int, ↓z_fin_bool, ↓z_fin_str, ↓z_ent_int, ↓z_ent_bool, ↓z_ent_str, ↓z_stn, ↓z_ldnn, ↓z_ldn0, ↓z_ldn1, ↓z_ldn2, ↓z_ldn3, ↓z_ldn4, ↓z_ldn5, ↓z_ldn6, ↓z_ldn7, ↓z_ldn8, List.drop_zero, List.drop_succ_cons, List.cons_append, List.nil_append, decide_eq_true_eq, decide_eq_false_iff_not, ite_not, ↓reduceIte, pub_agg, pub_int, pub_bool, pub_str, pub_fn, pub_vptr, pub_nilp, Nat.zero_add, List.length_cons, List.length_nil, Nat.reduceAdd, List.all_cons, List.all_nil, isCell_int, isCell_bool, isCell_str, isCell_sl, Bool.and_self, ↓z_loadn, Nat.reduceLeDiff, Nat.le_refl, List.take_succ_cons, List.take_zero, z_idx _ _ _ _ _ _ ea, Ins.enc, Ins.cs, AV.cells, z_call0 (hci _), ↓t1, ↓t2, hP, q1, q2, q6, q3, q4, decide_true, decide_false, Bool.false_eq_true, z_call0 (hca _), z_call0 (hcb _), z_callP (hr1 _) (hca _) (hr2 _), ↓t3, ↓t4, ↓t5, ↓t6]
    exact hk
  have q4 := eq_false h4
  have h5 : x.op = 5 := by omega
  have t3 := fun (s : St) (k : K1) => z_sadd G X (s := s) (k := k) P [114] (by simp; omega)
  have t4 := fun (s : St) (k : K1) => z_sadd G X (s := s) (k := k) (P ++ [114]) (dgI x.a) (by simp; omega)
  have t5 := fun (s : St) (k : K1) => z_sadd G X (s := s) (k := k) (P ++ [114] ++ dgI x.a) [32, 42, 32, 114] (by simp; omega)
  have t6 := fun (s : St) (k : K1) => z_sadd G X (s := s) (k := k) (P ++ [114] ++ dgI x.a ++ [32, 42, 32, 114]) (dgI x.b) (by simp; omega)
  rw [bodyT] at hk
  simp -implicitDefEqProofs only [q1, q2, q6, q3, q4, if_true, if_false, ← List.append_assoc] at hk
  rw [f34_j3_eq _ (PP_ok _ _ _)]
  simp -implicitDefEqProofs only [Prog.cs, ↓z_ret, ↓z_val, ↓z_pick, ↓z_cond, ↓z_boxRo_agg, ↓z_boxRo_int, ↓z_boxRo_bool, ↓z_boxRo_str, ↓z_boxRo_sl, ↓z_boxRo_fn, ↓z_boxRo_vptr, ↓z_boxRo_ref, ↓z_len_sl, ↓z_len_msl, ↓z_len_str, ↓z_load1, ↓z_fa, ↓z_fa_ref, ↓z_callF, ↓z_andK, ↓z_orK, ↓z_and1, ↓z_and2, ↓z_and3, ↓z_and4, ↓z_and5, ↓z_and6, ↓z_and7, ↓z_and8, ↓z_and9, ↓z_and10, ↓z_and11, ↓z_and12, ↓z_or1, ↓z_or2, ↓z_or3, ↓z_or4, ↓z_or5, ↓z_or6, ↓z_or7, ↓z_or8, ↓z_or9, ↓z_or10, ↓z_or11, ↓z_or12, ↓z_add, ↓z_sub, ↓z_mul, ↓z_eql, ↓z_neq, ↓z_lss, ↓z_leq, ↓z_gtr, ↓z_geq, ↓z_not, ↓z_neg, ↓z_fin_int, ↓z_fin_bool, ↓z_fin_str, ↓z_ent_int, ↓z_ent_bool, ↓z_ent_str, ↓z_stn, ↓z_ldnn, ↓z_ldn0, ↓z_ldn1, ↓z_ldn2, ↓z_ldn3, ↓z_ldn4, ↓z_ldn5, ↓z_ldn6, ↓z_ldn7, ↓z_ldn8, List.drop_zero, List.drop_succ_cons, List.cons_append, List.nil_append, decide_eq_true_eq, decide_eq_false_iff_not, ite_not, ↓reduceIte, pub_agg, pub_int, pub_bool, pub_str, pub_fn, pub_vptr, pub_nilp, Nat.zero_add, List.length_cons, List.length_nil, Nat.reduceAdd, List.all_cons, List.all_nil, isCell_int, isCell_bool, isCell_str, isCell_sl, Bool.and_self, ↓z_loadn, Nat.reduceLeDiff, Nat.le_refl, List.take_succ_cons, List.take_zero, z_idx _ _ _ _ _ _ ea, Ins.enc, Ins.cs, AV.cells, z_call0 (hci _), ↓t1, ↓t2, hP, q1, q2, q6, q3, q4, decide_true, decide_false, Bool.false_eq_true, z_call0 (hca _), z_call0 (hcb _), z_callP (hr1 _) (hca _) (hr2 _), ↓t3, ↓t4, ↓t5, ↓t6]
  exact hk
end
end Go.AbX
end
section
namespace Go.AbX
open Go.Ab
set_option linter.unusedSimpArgs false
set_option linter.unusedVariables false
set_option maxRecDepth 100000
section
variable (G : Nat → AV) (X : Nat → List AV → St → Res)
theorem lineT_ne (x : Ins) (i : Nat) : ([114] ++ dgI (i : Int) ++ [32, 61, 32] ++ bodyT x).map B ≠ [] := by simp
theorem f34_l2_ok (p : Prog) (s : St) (h8 : p.ins.length ≤ 8192) (hin : p.inputs ≤ 20) : ∀ (n i : Nat) (acc : List Nat) (S : St) (g : Gr), i + n = p.ins.length → okAll p.inputs (p.ins.drop i) i = true → Child s S → Grow S g acc.length → (∀ b, b ∈ acc → b < 256) → acc.length ≤ 30 * i →
    f34_l2 (PP T1 G X) (.vptr p.cs) (.sl 1 (acc.map B) g) (.int .i64 (i : Int)) S = .ok (.tup [.str (acc ++ linesT (p.ins.drop i) i), I 0]) s := by
  intro n
  induction n with
  | zero =>
    intro i acc S g hi hok hS hg hb hl
    have h : ¬ ((i : Int) < (p.ins.length : Int)) := by omega
    have hbs := fun (k : K1) => z_b2s_all G X S k acc g hb
    rw [f34_l2_eq _ (PP_ok _ _ _)]
    simp -implicitDefEqProofs only [↓z_ret, ↓z_val, ↓z_pick, ↓z_cond, ↓z_boxRo_agg, ↓z_boxRo_int, ↓z_boxRo_bool, ↓z_boxRo_str, ↓z_boxRo_sl, ↓z_boxRo_fn, ↓z_boxRo_vptr, ↓z_boxRo_ref, ↓z_len_sl, ↓z_len_msl, ↓z_len_str, ↓z_load1, ↓z_fa, ↓z_fa_ref, ↓z_callF, ↓z_andK, ↓z_orK, ↓z_and1, ↓z_and2, ↓z_and3, ↓z_and4, ↓z_and5, ↓z_and6, ↓z_and7, ↓z_and8, ↓z_and9, ↓z_and10, ↓z_and11, ↓z_and12, ↓z_or1, ↓z_or2, ↓z_or3, ↓z_or4, ↓z_or5, ↓z_or6, ↓z_or7, ↓z_or8, ↓z_or9, ↓z_or10, ↓z_or11, ↓z_or12, ↓z_add, ↓z_sub, ↓z_mul, ↓z_eql, ↓z_neq, ↓z_lss, ↓z_leq, ↓z_gtr, ↓z_geq, ↓z_not, ↓z_neg, ↓z_fin_int, ↓z_fin_bool, ↓z_fin_str, ↓z_ent_int, ↓z_ent_bool, ↓z_ent_str, ↓z_stn, ↓z_ldnn, ↓z_ldn0, ↓z_ldn1, ↓z_ldn2, ↓z_ldn3, ↓z_ldn4, ↓z_ldn5, ↓z_ldn6, ↓z_ldn7, ↓z_ldn8, List.drop_zero, List.drop_succ_cons, List.cons_append, List.nil_append, decide_eq_true_eq, decide_eq_false_iff_not, ite_not, ↓reduceIte, pub_agg, pub_int, pub_bool, pub_str, pub_fn, pub_vptr, pub_nilp, Nat.zero_add, List.length_cons, List.length_nil, Nat.reduceAdd, List.all_cons, List.all_nil, isCell_int, isCell_bool, isCell_str, isCell_sl, Bool.and_self, ↓z_loadn, Nat.reduceLeDiff, Nat.le_refl, List.take_succ_cons, List.take_zero, Prog.cs, List.length_map, eq_false h, decide_false, Bool.false_eq_true, f34_j6_eq _ (PP_ok _ _ _), ↓hbs]
    rw [z_finC2 hS _ _ _ _ rfl rfl, List.drop_of_length_le (by omega)]
    simp -implicitDefEqProofs only [linesT, List.append_nil]
  | succ n ih =>
    intro i acc S g hi hok hS hg hb hl
    have h : (i : Int) < (p.ins.length : Int) := by omega
    have hlt : i < p.ins.length := by omega
    obtain ⟨x, hx⟩ : ∃ x, p.ins[i]? = some x := ⟨_, List.getElem?_eq_getElem hlt⟩
    have hx' := (List.getElem?_eq_some_iff.1 hx).2
    rw [List.drop_eq_getElem_cons hlt, hx'] at hok ⊢
    simp -implicitDefEqProofs only [okAll, Bool.and_eq_true] at hok
    have sm := okIns_small hok.1 (by omega) hin
    have hll := lineT_len sm (show i < 8192 by omega)
    have hw : IntKind.wrap .i64 ((i : Int) + 1) = ((i + 1 : Nat) : Int) := wrap_succ i (by omega)
    have hl2 : ([114] ++ dgI (i : Int) ++ [32, 61, 32] ++ bodyT x).length ≤ 29 := by
      unfold lineT at hll
      simp at hll ⊢
      omega
    have step := f34_j3_ok G X p x i (by omega) hx hok.1 hin S (.sl 1 (acc.map B) g) (.ok (.tup [.str (acc ++ linesT (x :: p.ins.drop (i + 1)) i), I 0]) s) (by
      have hlb : ∀ b, b ∈ [114] ++ dgI (i : Int) ++ [32, 61, 32] ++ bodyT x → b < 256 := byt_app (byt_app (byt_app (by decide) (dgI_byte _)) (by decide)) (bodyT_byte x)
      have hP : lineT i x = [114] ++ dgI (i : Int) ++ [32, 61, 32] ++ bodyT x ++ [10] := rfl
      have hne := lineT_ne x i
      generalize [114] ++ dgI (i : Int) ++ [32, 61, 32] ++ bodyT x = P at *
      rw [f34_j4_eq _ (PP_ok _ _ _), append_elems G X (elems_str _ P)]
      refine z_append (by simpa using hg.new _) hne (by simp; omega) (bytes_ok _) fun g' S' hg' _ _ _ hG => ?_
      simp -implicitDefEqProofs only [↓z_bs1b]
      refine z_append (by simpa using hg') (by simp) (by simp; omega) rfl fun g2 S2 hg2 _ _ _ hG2 => ?_
      rw [f34_j5_eq _ (PP_ok _ _ _)]
      simp -implicitDefEqProofs only [↓z_ret, ↓z_val, ↓z_pick, ↓z_cond, ↓z_boxRo_agg, ↓z_boxRo_int, ↓z_boxRo_bool, ↓z_boxRo_str, ↓z_boxRo_sl, ↓z_boxRo_fn, ↓z_boxRo_vptr, ↓z_boxRo_ref, ↓z_len_sl, ↓z_len_msl, ↓z_len_str, ↓z_load1, ↓z_fa, ↓z_fa_ref, ↓z_callF, ↓z_andK, ↓z_orK, ↓z_and1, ↓z_and2, ↓z_and3, ↓z_and4, ↓z_and5, ↓z_and6, ↓z_and7, ↓z_and8, ↓z_and9, ↓z_and10, ↓z_and11, ↓z_and12, ↓z_or1, ↓z_or2, ↓z_or3, ↓z_or4, ↓z_or5, ↓z_or6, ↓z_or7, ↓z_or8, ↓z_or9, ↓z_or10, ↓z_or11, ↓z_or12, ↓z_add, ↓z_sub, ↓z_mul, ↓z_eql, ↓z_neq, ↓z_lss, ↓z_leq, ↓z_gtr, ↓z_geq, ↓z_not, ↓z_neg, ↓z_fin_int, ↓z_fin_bool, ↓z_fin_str, ↓z_ent_int, ↓z_ent_bool, ↓z_ent_str, ↓z_stn, ↓z_ldnn, ↓z_ldn0, ↓z_ldn1, ↓z_ldn2, ↓z_ldn3, ↓z_ldn4, ↓z_ldn5, ↓z_ldn6, ↓z_ldn7, ↓z_ldn8, List.drop_zero, List.drop_succ_cons, List.cons_append, List.nil_append, decide_eq_true_eq, decide_eq_false_iff_not, ite_not, ↓reduceIte, pub_agg, pub_int, pub_bool, pub_str, pub_fn, pub_vptr, pub_nilp, Nat.zero_add, List.length_cons, List.length_nil, Nat.reduceAdd, List.all_cons, List.all_nil, isCell_int, isCell_bool, isCell_str, isCell_sl, Bool.and_self, ↓z_loadn, Nat.reduceLeDiff, Nat.le_refl, List.take_succ_cons, List.take_zero, hw]
      have := ih (i + 1) (acc ++ lineT i x) S2 g2 (by omega) hok.2 (hG2.child (hG.child (hS.new _))) (by rw [hP]; simpa [Nat.add_assoc] using hg2) (byt_app hb (by rw [hP]; exact byt_app hlb (by decide))) (by rw [List.length_append]; omega)
      simp -implicitDefEqProofs only [linesT, ← List.append_assoc] at this ⊢
      rw [← this, hP]
      simp -implicitDefEqProofs only [List.map_append, List.append_assoc]
      rfl)
    rw [f34_l2_eq _ (PP_ok _ _ _)]
    simp -implicitDefEqProofs only [Prog.cs] at step ⊢
    simp -implicitDefEqProofs only [↓z_ret, ↓z_val, ↓z_pick, ↓z_cond, ↓z_boxRo_agg, ↓z_boxRo_int, ↓z_boxRo_bool, ↓z_boxRo_str, ↓z_boxRo_sl, ↓z_boxRo_fn, ↓z_boxRo_vptr, ↓z_boxRo_ref, ↓z_len_sl, ↓z_len_msl, ↓z_len_str, ↓z_load1, ↓z_fa, ↓z_fa_ref, ↓z_callF, ↓z_andK, ↓z_orK, ↓z_and1, ↓z_and2, ↓z_and3, ↓z_and4, ↓z_and5, ↓z_and6, ↓z_and7, ↓z_and8, ↓z_and9, ↓z_and10, ↓z_and11, ↓z_and12, ↓z_or1, ↓z_or2, ↓z_or3, ↓z_or4, ↓z_or5, ↓z_or6, ↓z_or7, ↓z_or8, ↓z_or9, ↓z_or10, ↓z_or11, ↓z_or12, ↓z_add, ↓z_sub, ↓z_mul, ↓z_eql, ↓z_neq, ↓z_lss, ↓z_leq, ↓z_gtr, ↓z_geq, ↓z_not, ↓z_neg, ↓z_fin_int, ↓z_fin_bool, ↓z_fin_str, ↓z_ent_int, ↓z_ent_bool, ↓z_ent_str, ↓z_stn, ↓z_ldnn, ↓z_ldn0, ↓z_ldn1, ↓z_ldn2, ↓z_ldn3, ↓z_ldn4, ↓z_ldn5, ↓z_ldn6, ↓z_ldn7, ↓z_ldn8, List.drop_zero, List.drop_succ_cons, List.cons_append, List.nil_append, decide_eq_true_eq, decide_eq_false_iff_not, ite_not, ↓reduceIte, pub_agg, pub_int, pub_bool, pub_str, pub_fn, pub_vptr, pub_nilp, Nat.zero_add, List.length_cons, List.length_nil, Nat.reduceAdd, List.all_cons, List.all_nil, isCell_int, isCell_bool, isCell_str, isCell_sl, Bool.and_self, ↓z_loadn, Nat.reduceLeDiff, Nat.le_refl, List.take_succ_cons, List.take_zero, List.length_map, eq_true h, decide_true, step]
def textR (p : Prog) : AV := if p.check = 0 then .tup [.str (linesT p.ins 0), I 0] else .tup [.str [], I p.check]
theorem f34_ok (p : Prog) (s : St) (hv : p.vals.length ≤ 9223372036854775807) (hvv : ∀ v, v ∈ p.vals → v.1.length ≤ 9223372036854775807) : callω T1 G X 34 [p.enc] s = .ok (textR p) s := by
  rw [f34_call, f34_eq]
  have h16 := f16_ok G X p s.enter hv hvv
  unfold textR
  simp -implicitDefEqProofs only [Prog.enc, Prog.cs] at h16
  by_cases hc : p.check = 0
  · have hl := f34_l2_ok G X p s (check0 hc).1 (check0 hc).2.1 p.ins.length 0 [] s.enter .nil (by omega) (check0 hc).2.2 (.enter s) .nil (by simp) (by simp)
    simp -implicitDefEqProofs only [Int.natCast_zero, List.drop_zero, Prog.cs, List.map_nil, List.nil_append] at hl
    simp -implicitDefEqProofs only [Prog.enc, Prog.cs, ↓z_ret, ↓z_val, ↓z_pick, ↓z_cond, ↓z_boxRo_agg, ↓z_boxRo_int, ↓z_boxRo_bool, ↓z_boxRo_str, ↓z_boxRo_sl, ↓z_boxRo_fn, ↓z_boxRo_vptr, ↓z_boxRo_ref, ↓z_len_sl, ↓z_len_msl, ↓z_len_str, ↓z_load1, ↓z_fa, ↓z_fa_ref, ↓z_callF, ↓z_andK, ↓z_orK, ↓z_and1, ↓z_and2, ↓z_and3, ↓z_and4, ↓z_and5, ↓z_and6, ↓z_and7, ↓z_and8, ↓z_and9, ↓z_and10, ↓z_and11, ↓z_and12, ↓z_or1, ↓z_or2, ↓z_or3, ↓z_or4, ↓z_or5, ↓z_or6, ↓z_or7, ↓z_or8, ↓z_or9, ↓z_or10, ↓z_or11, ↓z_or12, ↓z_add, ↓z_sub, ↓z_mul, ↓z_eql, ↓z_neq, ↓z_lss, ↓z_leq, ↓z_gtr, ↓z_geq, ↓z_not, ↓z_neg, ↓z_fin_int, ↓z_fin_bool, ↓z_fin_str, ↓z_ent_int, ↓z_ent_bool, ↓z_ent_str, ↓z_stn, ↓z_ldnn, ↓z_ldn0, ↓z_ldn1, ↓z_ldn2, ↓z_ldn3, ↓z_ldn4, ↓z_ldn5, ↓z_ldn6, ↓z_ldn7, ↓z_ldn8, List.drop_zero, List.drop_succ_cons, List.cons_append, List.nil_append, decide_eq_true_eq, decide_eq_false_iff_not, ite_not, ↓reduceIte, pub_agg, pub_int, pub_bool, pub_str, pub_fn, pub_vptr, pub_nilp, Nat.zero_add, List.length_cons, List.length_nil, Nat.reduceAdd, List.all_cons, List.all_nil, isCell_int, isCell_bool, isCell_str, isCell_sl, Bool.and_self, ↓z_loadn, Nat.reduceLeDiff, Nat.le_refl, List.take_succ_cons, List.take_zero, z_call0 h16, eq_true hc, not_true_eq_false, decide_false, Bool.false_eq_true, f34_j1_eq _ (PP_ok _ _ _), hl]
  · simp -implicitDefEqProofs only [Prog.enc, Prog.cs, ↓z_ret, ↓z_val, ↓z_pick, ↓z_cond, ↓z_boxRo_agg, ↓z_boxRo_int, ↓z_boxRo_bool, ↓z_boxRo_str, ↓z_boxRo_sl, ↓z_boxRo_fn, ↓z_boxRo_vptr, ↓z_boxRo_ref, ↓z_len_sl, ↓z_len_msl, ↓z_len_str, ↓z_load1, ↓z_fa, ↓z_fa_ref, ↓z_callF, ↓z_andK, ↓z_orK, ↓z_and1, ↓z_and2, ↓z_and3, ↓z_and4, ↓z_and5, ↓z_and6, ↓z_and7, ↓z_and8, ↓z_and9, ↓z_and10, ↓z_and11, ↓z_and12, ↓z_or1, ↓z_or2, ↓z_or3, ↓z_or4, ↓z_or5, ↓z_or6, ↓z_or7, ↓z_or8, ↓z_or9, ↓z_or10, ↓z_or11, ↓z_or12, ↓z_add, ↓z_sub, ↓z_mul, ↓z_eql, ↓z_neq, ↓z_lss, ↓z_leq, ↓z_gtr, ↓z_geq, ↓z_not, ↓z_neg, ↓z_fin_int, ↓z_fin_bool, ↓z_fin_str, ↓z_ent_int, ↓z_ent_bool, ↓z_ent_str, ↓z_stn, ↓z_ldnn, ↓z_ldn0, ↓z_ldn1, ↓z_ldn2, ↓z_ldn3, ↓z_ldn4, ↓z_ldn5, ↓z_ldn6, ↓z_ldn7, ↓z_ldn8, List.drop_zero, List.drop_succ_cons, List.cons_append, List.nil_append, decide_eq_true_eq, decide_eq_false_iff_not, ite_not, ↓reduceIte, pub_agg, pub_int, pub_bool, pub_str, pub_fn, pub_vptr, pub_nilp, Nat.zero_add, List.length_cons, List.length_nil, Nat.reduceAdd, List.all_cons, List.all_nil, isCell_int, isCell_bool, isCell_str, isCell_sl, Bool.and_self, ↓z_loadn, Nat.reduceLeDiff, Nat.le_refl, List.take_succ_cons, List.take_zero, z_call0 h16, eq_false hc, not_false_eq_true, decide_true]
    exact z_finC2 (.enter s) _ _ _ _ rfl rfl
end
end Go.AbX
end
