/- The contracts of some functions of the program, as the abstract evaluator runs them: for every argument that their texts name. -/
import Derived.Test.YtnafklimohmfkaaGreatDoorX10
section
namespace Go.AbX
open Go.Ab
set_option linter.unusedSimpArgs false
set_option linter.unusedVariables false
set_option maxRecDepth 100000
/-- A state with another list of objects in its frame. -/
abbrev wo (S : St) (o : List AObj) : St := { own := o, up := S.up, ro := S.ro }
theorem wo_dep (S : St) (o : List AObj) : (wo S o).depth = S.depth := rfl
theorem get_own (S : St) (j : Nat) : S.get (.g S.depth j) = S.own[j]? := by simp [St.get]
theorem set_own (S : St) (j : Nat) (o : AObj) : S.set (.g S.depth j) o = some (wo S (S.own.set j o)) := by simp [St.set]
theorem TK.self {S : St} {J n : Nat} (h : S.own[J]? = some (.tok n)) : TK S S.depth J n (fun m => wo S (S.own.set J (.tok m))) where
  le := Nat.le_refl _
  get := by rw [get_own, h]
  set := fun m => set_own S J _
  get2 := fun m => by
    have hj := (List.getElem?_eq_some_iff.1 h).1
    have := get_own (wo S (S.own.set J (.tok m))) J
    rw [wo_dep] at this
    rw [this]
    simp [hj]
  set2 := fun m m' => by
    have := set_own (wo S (S.own.set J (.tok m))) J (.tok m')
    rw [wo_dep] at this
    rw [this]
    simp
  dep := fun m => rfl
/-- What the variable holds, and the room behind it. -/
structure TB (s S : St) (acc : List Nat) (J : Nat) : Prop where
  ch : Child s S
  j0 : 0 < J
  b : S.own[0]? = some (.cells [.sl 1 (acc.map B) (.buf (.g S.depth J))])
  t : S.own[J]? = some (.tok acc.length)
/-- The variable behind an append. -/
def upd (S : St) (J : Nat) (acc : List Nat) : St := wo S ((S.own.set J (.tok acc.length)).set 0 (.cells [.sl 1 (acc.map B) (.buf (.g S.depth J))]))
theorem upd_tb {s S : St} {J : Nat} {acc acc' : List Nat} (h : TB s S acc J) : TB s (upd S J acc') acc' J where
  ch := ⟨h.ch.up, h.ch.ro⟩
  j0 := h.j0
  b := by
    have h0 := (List.getElem?_eq_some_iff.1 h.b).1
    show ((S.own.set J _).set 0 _)[0]? = _
    simp [h0]
    rfl
  t := by
    have hj := (List.getElem?_eq_some_iff.1 h.t).1
    show ((S.own.set J _).set 0 _)[J]? = _
    rw [List.getElem?_set_ne (by have := h.j0; omega)]
    simp [hj]
theorem upd_dep (S : St) (J : Nat) (acc : List Nat) : (upd S J acc).depth = S.depth := rfl
theorem upd_own {S : St} {J : Nat} {q : Nat} {cs : List AV} (hq : 0 < q) (hJ : ∃ n, S.own[J]? = some (.tok n)) (h : S.own[q]? = some (.cells cs)) : ∀ acc', (upd S J acc').own[q]? = some (.cells cs) := fun acc' => by
  show ((S.own.set J _).set 0 _)[q]? = _
  rw [List.getElem?_set_ne (by omega), List.getElem?_set_ne]
  · exact h
  · intro e
    subst e
    obtain ⟨n, hJ⟩ := hJ
    rw [h] at hJ
    cases hJ
section
variable (G : Nat → AV) (X : Nat → List AV → St → Res)
theorem z_ldB {s S : St} {acc : List Nat} {J : Nat} (h : TB s S acc J) (k : K1) : (PP T1 G X).load S k none (.ref (.l 0) 0) = k (.sl 1 (acc.map B) (.buf (.g S.depth J))) S := z_ld_own h.b rfl
theorem z_stB {S : St} {k : K1} {c v : AV} (h : S.own[0]? = some (.cells [c])) (hv : v.isCell = true) (hc : v.cells = [v]) :
    (PP T1 G X).store S k 1 (.ref (.l 0) 0) v = k .dead (wo S (S.own.set 0 (.cells [v]))) := by
  rw [zz_store]
  have hval : v.isVal = true := by cases v <;> first | rfl | cases hv
  simp -implicitDefEqProofs only [storeOp, hval, hc, List.length_cons, List.length_nil, Nat.zero_add, Nat.beq_refl, Bool.and_self, cond_true]
  unfold storeV
  rw [show S.get (.l 0) = some (.cells [c]) from h]
  simp -implicitDefEqProofs only [List.length_cons, List.length_nil, Nat.zero_add, show Nat.ble 1 1 = true from rfl, show S.takes (.l 0) [v] = true from by simp [St.takes, St.isOwn], List.all_cons, hv, List.all_nil, Bool.and_self, cond_true]
  rfl
/-- An append to the variable, and its store. -/
theorem z_appB {s S : St} {acc : List Nat} {J : Nat} (h : TB s S acc J) (hl : acc.length ≤ 900000) (nb : List Nat) (hn : nb ≠ []) (hnl : nb.length ≤ 1000) {y : AV} (hy : elemsOf S y = some (1, nb.map B)) (b : Ab.Loc) (k : K1) :
    (PP T1 G X).append S k 1 1 (some b) (.sl 1 (acc.map B) (.buf (.g S.depth J))) y = k (.sl 1 ((acc ++ nb).map B) (.buf (.g S.depth J))) (wo S (S.own.set J (.tok (acc ++ nb).length))) := by
  have ht : S.own[J]? = some (.tok (acc.map B).length) := by rw [List.length_map]; exact h.t
  have := z_appT G X (k := k) (TK.self ht) hy (by simpa using hn) (by simp; omega) (bytes_ok nb) b
  rw [this, List.map_append, List.length_append, List.length_map, List.length_map]
theorem z_stU {s S : St} {acc acc' : List Nat} {J : Nat} (h : TB s S acc J) (k : K1) : (PP T1 G X).store (wo S (S.own.set J (.tok acc'.length))) k 1 (.ref (.l 0) 0) (.sl 1 (acc'.map B) (.buf (.g S.depth J))) = k .dead (upd S J acc') := by
  have h0 : (wo S (S.own.set J (.tok acc'.length))).own[0]? = some (.cells [.sl 1 (acc.map B) (.buf (.g S.depth J))]) := by
    show (S.own.set J _)[0]? = _
    rw [List.getElem?_set_ne (by have := h.j0; omega)]
    exact h.b
  rw [z_stB G X h0 rfl rfl]
  rfl
/-- AppendInt, and the store of what it hands back. -/
theorem z_intB (hG : G 0 = .vptr powCs) {s S : St} {acc : List Nat} {J : Nat} (h : TB s S acc J) (n : Int) (hn : -10000 < n ∧ n < 10000) (acc1 : List Nat) (hl : acc1.length ≤ 900000) :
    callω T1 G X 60 [.sl 1 (acc1.map B) (.buf (.g S.depth J)), .int .i64 n, .int .i64 10] (wo S (S.own.set J (.tok acc1.length))) = .ok (.sl 1 ((acc1 ++ dgI n).map B) (.buf (.g S.depth J))) (wo S (S.own.set J (.tok (acc1 ++ dgI n).length))) := by
  have hj := (List.getElem?_eq_some_iff.1 h.t).1
  have ht : (wo S (S.own.set J (.tok acc1.length))).own[J]? = some (.tok (acc1.map B).length) := by
    rw [List.length_map]
    show (S.own.set J _)[J]? = _
    simp [hj]
  have := f60_ok G X hG n hn _ _ J _ (acc1.map B) (TK.self ht) (by simpa using hl)
  rw [wo_dep] at this
  rw [this, List.map_append, List.length_append, List.length_map]
  simp
end
end Go.AbX
end
section
namespace Go.AbX
open Go.Ab
set_option linter.unusedSimpArgs false
set_option linter.unusedVariables false
set_option maxRecDepth 100000
section
variable (G : Nat → AV) (X : Nat → List AV → St → Res)
theorem z_ld_up {S : St} {k : K1} {c : AV} {cs : List AV} (h : S.own[0]? = some (.cells (c :: cs))) : (PP T1 G X).load S.enter k none (.ref (.g S.depth 0) 0) = k c S.enter := by
  rw [zz_load]
  simp -implicitDefEqProofs only [loadOp, child_get (Child.enter S) (Nat.le_refl _), get_own, h]
  rfl
theorem z_st_up {Q T : St} {k : K1} {c v : AV} (h : T.own[0]? = some (.cells [c])) (hv : v.isCell = true) (hc : v.cells = [v]) (hl : AV.low T.depth v = true) :
    (PP T1 G X).store (reup Q T) k 1 (.ref (.g T.depth 0) 0) v = k .dead (reup Q (wo T (T.own.set 0 (.cells [v])))) := by
  rw [zz_store]
  have hval : v.isVal = true := by cases v <;> first | rfl | cases hv
  have hg : (reup Q T).get (.g T.depth 0) = some (.cells [c]) := by rw [child_get (reup_child Q T) (Nat.le_refl _), get_own, h]
  simp -implicitDefEqProofs only [storeOp, hval, hc, List.length_cons, List.length_nil, Nat.zero_add, Nat.beq_refl, Bool.and_self, cond_true]
  unfold storeV
  simp -implicitDefEqProofs only [hg]
  have ht : (reup Q T).takes (.g T.depth 0) [v] = true := by simp [St.takes, AV.lowL, hl]
  simp -implicitDefEqProofs only [List.length_cons, List.length_nil, Nat.zero_add, show Nat.ble 1 1 = true from rfl, ht, List.all_cons, hv, List.all_nil, Bool.and_self, cond_true]
  show (match (reup Q T).set (.g T.depth 0) (.cells (splice [c] 0 [v])) with | some s => k .dead s | none => .fail) = _
  rw [child_set (reup_child Q T) (Nat.le_refl _) (set_own T 0 (.cells (splice [c] 0 [v])))]
  rfl
theorem fin_up (Q T : St) : (PP T1 G X).fin false [] (reup Q T) = .ok (.tup []) T := rfl
theorem f59_tail (hG : G 0 = .vptr powCs) (n : Int) (hn : -10000 < n ∧ n < 10000) (Q T : St) (J : Nat) (c0 : AV) (acc1 : List Nat) (h0 : T.own[0]? = some (.cells [c0])) (hJ : 0 < J) (ht : T.own[J]? = some (.tok acc1.length)) (hl : acc1.length ≤ 900000) :
    (PP T1 G X).call (reup Q T) (fun v7 s => (PP T1 G X).store s (fun _v s => (PP T1 G X).fin false [] s) 1 (.ref (.g T.depth 0) 0) (AV.pub s.depth v7)) 60 [.sl 1 (acc1.map B) (.buf (.g T.depth J)), .int .i64 n, .int .i64 10] = .ok (.tup []) (upd T J (acc1 ++ dgI n)) := by
  have hT : TK (reup Q T) T.depth J (acc1.map B).length _ := (TK.self (by rw [List.length_map]; exact ht)).child (reup_child Q T)
  have h60 := f60_ok G X hG n hn (reup Q T) T.depth J _ (acc1.map B) hT (by simpa using hl)
  refine (z_call h60 ?_).trans ?_
  · show (reup _ _).depth = (reup _ _).depth
    rw [child_dep (reup_child _ _), child_dep (reup_child _ _)]
    rfl
  · have h0' : (wo T (T.own.set J (.tok ((acc1.map B).length + (dgI n).length)))).own[0]? = some (.cells [c0]) := by
      show (T.own.set J _)[0]? = _
      rw [List.getElem?_set_ne (by omega)]
      exact h0
    have hlow : AV.low (wo T (T.own.set J (.tok ((acc1.map B).length + (dgI n).length)))).depth (.sl 1 (acc1.map B ++ (dgI n).map B) (.buf (.g T.depth J))) = true := by
      simp -implicitDefEqProofs only [AV.low, Loc.low]
      exact Nat.ble_eq_true_of_le (Nat.le_refl _)
    have := z_st_up G X (Q := reup Q T) (k := fun _v s => (PP T1 G X).fin false [] s) h0' (v := .sl 1 (acc1.map B ++ (dgI n).map B) (.buf (.g T.depth J))) rfl rfl hlow
    refine Eq.trans this ?_
    rw [fin_up]
    unfold upd
    simp -implicitDefEqProofs only [List.map_append, List.length_append, List.length_map]
/-- The function that writes a register, behind the first line's first word. -/
theorem f59_ok (hG : G 0 = .vptr powCs) {s S : St} {acc : List Nat} {J : Nat} (h : TB s S acc J) (hl : acc.length ≤ 800000) (n : Int) (hn : -10000 < n ∧ n < 10000) :
    callω T1 G X 59 [.int .i64 n, .ref (.g S.depth 0) 0] S = .ok (.tup []) (upd S J (acc ++ [114] ++ dgI n)) := by
  rw [f59_call, f59_eq]
  have hTe := (TK.self (S := S) (J := J) (n := (acc.map B).length) (by rw [List.length_map]; exact h.t)).child (Child.enter S)
  have hld := fun (k : K1) => z_ld_up G X (k := k) h.b
  have ha := fun (k : K1) (g : Gr) => z_appT G X (k := k) hTe (elems_b1 S.enter 114 g) (by simp) (by simp; omega) (bytes_ok _) (.g S.depth 0)
  simp -implicitDefEqProofs only [↓hld, ↓z_bs1b, hAt]
  refine (ha _ _).trans ?_
  have hj := (List.getElem?_eq_some_iff.1 h.t).1
  have htl := f59_tail G X hG n hn S.enter (wo S (S.own.set J (.tok ((acc.map B).length + ([114].map B).length)))) J (.sl 1 (acc.map B) (.buf (.g S.depth J))) (acc ++ [114]) (by
    show (S.own.set J _)[0]? = _
    rw [List.getElem?_set_ne (by have := h.j0; omega)]
    exact h.b) h.j0 (by
    show (S.own.set J _)[J]? = _
    simp [hj]) (by simp; omega)
  rw [wo_dep] at htl
  rw [List.map_append] at htl
  simp -implicitDefEqProofs only [pub_int]
  refine Eq.trans htl ?_
  congr 1
  unfold upd
  simp
  rfl
/-- The first time. -/
theorem f59_nil (hG : G 0 = .vptr powCs) {S : St} (h0 : S.own[0]? = some (.cells [.sl 1 [] .nil])) (n : Int) (hn : -10000 < n ∧ n < 10000) :
    callω T1 G X 59 [.int .i64 n, .ref (.g S.depth 0) 0] S = .ok (.tup []) (upd (S.new (.tok 1)) S.own.length ([114] ++ dgI n)) := by
  rw [f59_call, f59_eq]
  have hlen := (List.getElem?_eq_some_iff.1 h0).1
  have hld := fun (k : K1) => z_ld_up G X (k := k) h0
  have hnew : S.enter.newBy (.g S.depth 0) (.tok 1) = some (.g S.depth S.own.length, reup S.enter (S.new (.tok 1))) := by
    have e := child_dep (Child.enter S)
    have hd : S.depth = S.up.length + S.ro.length := rfl
    simp -implicitDefEqProofs only [St.newBy, e]
    rw [if_neg (by omega), if_pos ⟨by omega, by show S.ro.length ≤ _; omega⟩]
    have : S.depth + 1 - 1 - S.depth = 0 := by omega
    rw [this]
    rfl
  have ha : ∀ (k : K1) (g : Gr), (PP T1 G X).append S.enter k 1 1 (some (.g S.depth 0)) (.sl 1 [] .nil) (.sl 1 [.int .u8 114] g) = k (.sl 1 ([114].map B) (.buf (.g S.depth S.own.length))) (reup S.enter (S.new (.tok 1))) := fun k g => by
    rw [zz_append]
    unfold appendOp
    simp -implicitDefEqProofs only
    unfold appendV
    simp -implicitDefEqProofs only [elemsOf, Nat.beq_refl, Bool.true_and, List.length_nil, List.length_cons, Nat.zero_add, Nat.mul_one]
    rw [show Nat.ble 1 1099511627776 = true from rfl]
    simp -implicitDefEqProofs only [cond_true, hnew]
    rfl
  simp -implicitDefEqProofs only [↓hld, ↓z_bs1b, hAt]
  refine (ha _ _).trans ?_
  have htl := f59_tail G X hG n hn S.enter (S.new (.tok 1)) S.own.length (.sl 1 [] .nil) [114] (by
    show (S.own ++ [_])[0]? = _
    rw [List.getElem?_append_left hlen]
    exact h0) hlen (by simp [St.new]) (by simp)
  have hd : (S.new (.tok 1)).depth = S.depth := rfl
  rw [hd] at htl
  simp -implicitDefEqProofs only [pub_int]
  exact htl
end
end Go.AbX
end
section
namespace Go.AbX
open Go.Ab
set_option linter.unusedSimpArgs false
set_option linter.unusedVariables false
set_option maxRecDepth 100000
section
variable (G : Nat → AV) (X : Nat → List AV → St → Res)
theorem appendS_sl {S : St} {k : K1} {q b sz : Nat} {at_ : Option Ab.Loc} {es : List AV} {g : Gr} {y : AV} : (PP T1 G X).appendS S k q b at_ (.sl sz es g) y = (PP T1 G X).append S k q b at_ (.sl sz es g) y := rfl
theorem z_bs3b (s : St) (k : K1) (a b c : Int) : (PP T1 G X).buildSlice s k 1 [.int .u8 a, .int .u8 b, .int .u8 c] = k (.sl 1 [.int .u8 a, .int .u8 b, .int .u8 c] .exact) s := rfl
theorem pub_slg (e sz : Nat) (es : List AV) (d j : Nat) : AV.pub e (.sl sz es (.buf (.g d j))) = .sl sz es (.buf (.g d j)) := rfl
theorem pub_i (d : Nat) (k : IntKind) (n : Int) : AV.pub d (.int k n) = .int k n := rfl
/-- The variable is read, appended to, and stored. -/
theorem z_putB {s S : St} {acc : List Nat} {J : Nat} (h : TB s S acc J) (hl : acc.length ≤ 900000) (nb : List Nat) (hn : nb ≠ []) (hnl : nb.length ≤ 1000) {y : AV} (hy : elemsOf S y = some (1, nb.map B)) (b : Ab.Loc) (k : K1) :
    (PP T1 G X).append S (fun v s => (PP T1 G X).store s k 1 (.ref (.l 0) 0) (AV.pub s.depth v)) 1 1 (some b) (.sl 1 (acc.map B) (.buf (.g S.depth J))) y = k .dead (upd S J (acc ++ nb)) := by
  refine (z_appB G X h hl nb hn hnl hy b _).trans ?_
  exact z_stU G X h k
theorem box_wo {S : St} {J q n : Nat} {cs : List AV} (hJ : S.own[J]? = some (.tok n)) (hb : S.own[q]? = some (.cells cs)) (m : Nat) : (wo S (S.own.set J (.tok m))).own[q]? = some (.cells cs) := by
  show (S.own.set J _)[q]? = _
  rw [List.getElem?_set_ne]
  · exact hb
  · intro e
    subst e
    rw [hJ] at hb
    cases hb
/-- What a line says behind its register. -/
theorem f33_j3_ok (hG : G 0 = .vptr powCs) (p : Prog) (x : Ins) (i : Nat) (hi : i < 8192) (hx : p.ins[i]? = some x) (hop : x.op = 1 ∨ x.op = 2 ∨ x.op = 3 ∨ x.op = 4 ∨ x.op = 5 ∨ x.op = 6) (sm : smallI x) {s S S2 : St} {acc : List Nat} {J : Nat} (v17 : AV) (hS : Child s S)
    (h59 : callω T1 G X 59 [.int .i64 (i : Int), .ref (.g S.depth 0) 0] (S.new (.cells [I x.op, I x.a, I x.b])) = .ok (.tup []) S2) (h : TB s S2 acc J) (hd : S2.depth = S.depth) (hl : acc.length ≤ 700000) (hq : 0 < S.own.length) (hb : S2.own[S.own.length]? = some (.cells [I x.op, I x.a, I x.b])) (R : Res)
    (hk : ∀ S', TB s S' (acc ++ [32, 61, 32] ++ bodyT x) J → S'.depth = S.depth → f33_j4 (PP T1 G X) (.ref (.l 0) 0) (.fn 59 [.ref (.g S.depth 0) 0]) (.sl 3 (p.ins.map Ins.enc) p.gi) v17 (.int .i64 (i : Int)) S' = R) :
    f33_j3 (PP T1 G X) (.ref (.l 0) 0) (.fn 59 [.ref (.g S.depth 0) 0]) (.sl 3 (p.ins.map Ins.enc) p.gi) v17 (.int .i64 (i : Int)) S = R := by
  have ea : (p.ins.map Ins.enc)[i]? = some x.enc := by simp [hx]
  have la := dgI_len5 x.a sm.1
  have lb := dgI_len5 x.b sm.2
  rw [f33_j3_eq _ (PP_ok _ _ _)]
  simp -implicitDefEqProofs only [↓z_ret, ↓z_val, ↓z_pick, ↓z_cond, ↓z_boxRo_agg, ↓z_boxRo_int, ↓z_boxRo_bool, ↓z_boxRo_str, ↓z_boxRo_sl, ↓z_boxRo_fn, ↓z_boxRo_vptr, ↓z_boxRo_ref, ↓z_len_sl, ↓z_len_msl, ↓z_len_str, ↓z_load1, ↓z_fa, ↓z_fa_ref, ↓z_callF, ↓z_andK, ↓z_orK, ↓z_and1, ↓z_and2, ↓z_and3, ↓z_and4, ↓z_and5, ↓z_and6, ↓z_and7, ↓z_and8, ↓z_and9, ↓z_and10, ↓z_and11, ↓z_and12, ↓z_or1, ↓z_or2, ↓z_or3, ↓z_or4, ↓z_or5, ↓z_or6, ↓z_or7, ↓z_or8, ↓z_or9, ↓z_or10, ↓z_or11, ↓z_or12, ↓z_add, ↓z_sub, ↓z_mul, ↓z_eql, ↓z_neq, ↓z_lss, ↓z_leq, ↓z_gtr, ↓z_geq, ↓z_not, ↓z_neg, ↓z_fin_int, ↓z_fin_bool, ↓z_fin_str, ↓z_ent_int, ↓z_ent_bool, ↓z_ent_str, ↓z_stn, ↓z_ldnn, ↓z_ldn0, ↓z_ldn1, ↓z_ldn2, ↓z_ldn3, ↓z_ldn4, ↓z_ldn5, ↓z_ldn6, ↓z_ldn7, ↓z_ldn8, List.drop_zero, List.drop_succ_cons, List.cons_append, List.nil_append, decide_eq_true_eq, decide_eq_false_iff_not, ite_not, ↓reduceIte, pub_agg, pub_int, pub_bool, pub_str, pub_fn, pub_vptr, pub_nilp, Nat.zero_add, List.length_cons, List.length_nil, Nat.reduceAdd, List.all_cons, List.all_nil, isCell_int, isCell_bool, isCell_str, isCell_sl, Bool.and_self, ↓z_loadn, Nat.reduceLeDiff, Nat.le_refl, List.take_succ_cons, List.take_zero, z_idx _ _ _ _ _ _ ea, Ins.enc, Ins.cs, AV.cells]
  refine (z_call h59 hd).trans ?_
  refine (z_ldB G X h _).trans ?_
  refine (z_putB G X h (by omega) [32, 61, 32] (by simp) (by simp) (elems_str _ _) _ _).trans ?_
  have h3 := upd_tb (acc' := acc ++ [32, 61, 32]) h
  have hb3 := upd_own hq ⟨_, h.t⟩ hb (acc ++ [32, 61, 32])
  have hd3 : (upd S2 J (acc ++ [32, 61, 32])).depth = S.depth := hd
  have hl3 : (acc ++ [32, 61, 32]).length ≤ 700003 := by simp; omega
  generalize upd S2 J (acc ++ [32, 61, 32]) = S3 at *
  generalize hA : acc ++ [32, 61, 32] = A at *
  rw [← hd3] at hk ⊢
  have b0 := fun (k : K1) => z_ld_own (T := T1) (G := G) (X := X) (k := k) hb3 (o := 0) rfl
  have b1 := fun (k : K1) => z_ld_own (T := T1) (G := G) (X := X) (k := k) hb3 (o := 1) rfl
  have b2 := fun (k : K1) => z_ld_own (T := T1) (G := G) (X := X) (k := k) hb3 (o := 2) rfl
  by_cases h1 : x.op = 1
  · have q1 := eq_true h1
    rw [bodyT, if_pos h1, ← List.append_assoc] at hk
    simp -implicitDefEqProofs only [↓z_ret, ↓z_val, ↓z_pick, ↓z_cond, ↓z_boxRo_agg, ↓z_boxRo_int, ↓z_boxRo_bool, ↓z_boxRo_str, ↓z_boxRo_sl, ↓z_boxRo_fn, ↓z_boxRo_vptr, ↓z_boxRo_ref, ↓z_len_sl, ↓z_len_msl, ↓z_len_str, ↓z_load1, ↓z_fa, ↓z_fa_ref, ↓z_callF, ↓z_andK, ↓z_orK, ↓z_and1, ↓z_and2, ↓z_and3, ↓z_and4, ↓z_and5, ↓z_and6, ↓z_and7, ↓z_and8, ↓z_and9, ↓z_and10, ↓z_and11, ↓z_and12, ↓z_or1, ↓z_or2, ↓z_or3, ↓z_or4, ↓z_or5, ↓z_or6, ↓z_or7, ↓z_or8, ↓z_or9, ↓z_or10, ↓z_or11, ↓z_or12, ↓z_add, ↓z_sub, ↓z_mul, ↓z_eql, ↓z_neq, ↓z_lss, ↓z_leq, ↓z_gtr, ↓z_geq, ↓z_not, ↓z_neg, ↓z_fin_int, ↓z_fin_bool, ↓z_fin_str, ↓z_ent_int, ↓z_ent_bool, ↓z_ent_str, ↓z_stn, ↓z_ldnn, ↓z_ldn0, ↓z_ldn1, ↓z_ldn2, ↓z_ldn3, ↓z_ldn4, ↓z_ldn5, ↓z_ldn6, ↓z_ldn7, ↓z_ldn8, List.drop_zero, List.drop_succ_cons, List.cons_append, List.nil_append, decide_eq_true_eq, decide_eq_false_iff_not, ite_not, ↓reduceIte, pub_agg, pub_int, pub_bool, pub_str, pub_fn, pub_vptr, pub_nilp, Nat.zero_add, List.length_cons, List.length_nil, Nat.reduceAdd, List.all_cons, List.all_nil, isCell_int, isCell_bool, isCell_str, isCell_sl, Bool.and_self, ↓z_loadn, Nat.reduceLeDiff, Nat.le_refl, List.take_succ_cons, List.take_zero, ↓b0, q1, decide_true]
    refine (z_ldB G X h3 _).trans ?_
    rw [appendS_sl]
    refine (z_appB G X h3 (by omega) [105, 110, 32] (by simp) (by simp) (elems_str _ _) _ _).trans ?_
    have bw := fun (k : K1) => z_ld_own (T := T1) (G := G) (X := X) (k := k) (box_wo h3.t hb3 (A ++ [105, 110, 32]).length) (o := 1) rfl
    simp -implicitDefEqProofs only [↓z_ret, ↓z_val, ↓z_pick, ↓z_cond, ↓z_boxRo_agg, ↓z_boxRo_int, ↓z_boxRo_bool, ↓z_boxRo_str, ↓z_boxRo_sl, ↓z_boxRo_fn, ↓z_boxRo_vptr, ↓z_boxRo_ref, ↓z_len_sl, ↓z_len_msl, ↓z_len_str, ↓z_load1, ↓z_fa, ↓z_fa_ref, ↓z_callF, ↓z_andK, ↓z_orK, ↓z_and1, ↓z_and2, ↓z_and3, ↓z_and4, ↓z_and5, ↓z_and6, ↓z_and7, ↓z_and8, ↓z_and9, ↓z_and10, ↓z_and11, ↓z_and12, ↓z_or1, ↓z_or2, ↓z_or3, ↓z_or4, ↓z_or5, ↓z_or6, ↓z_or7, ↓z_or8, ↓z_or9, ↓z_or10, ↓z_or11, ↓z_or12, ↓z_add, ↓z_sub, ↓z_mul, ↓z_eql, ↓z_neq, ↓z_lss, ↓z_leq, ↓z_gtr, ↓z_geq, ↓z_not, ↓z_neg, ↓z_fin_int, ↓z_fin_bool, ↓z_fin_str, ↓z_ent_int, ↓z_ent_bool, ↓z_ent_str, ↓z_stn, ↓z_ldnn, ↓z_ldn0, ↓z_ldn1, ↓z_ldn2, ↓z_ldn3, ↓z_ldn4, ↓z_ldn5, ↓z_ldn6, ↓z_ldn7, ↓z_ldn8, List.drop_zero, List.drop_succ_cons, List.cons_append, List.nil_append, decide_eq_true_eq, decide_eq_false_iff_not, ite_not, ↓reduceIte, pub_agg, pub_int, pub_bool, pub_str, pub_fn, pub_vptr, pub_nilp, Nat.zero_add, List.length_cons, List.length_nil, Nat.reduceAdd, List.all_cons, List.all_nil, isCell_int, isCell_bool, isCell_str, isCell_sl, Bool.and_self, ↓z_loadn, Nat.reduceLeDiff, Nat.le_refl, List.take_succ_cons, List.take_zero, ↓bw, pub_slg]
    refine (z_call (z_intB G X hG h3 x.a sm.1 (A ++ [105, 110, 32]) (by simp; omega)) rfl).trans ?_
    refine (z_stU G X h3 _).trans ?_
    exact hk _ (upd_tb h3) rfl
  have q1 := eq_false h1
  by_cases h2 : x.op = 2
  · have q2 := eq_true h2
    rw [bodyT, if_neg h1, if_pos h2, ← List.append_assoc] at hk
    simp -implicitDefEqProofs only [↓z_ret, ↓z_val, ↓z_pick, ↓z_cond, ↓z_boxRo_agg, ↓z_boxRo_int, ↓z_boxRo_bool, ↓z_boxRo_str, ↓z_boxRo_sl, ↓z_boxRo_fn, ↓z_boxRo_vptr, ↓z_boxRo_ref, ↓z_len_sl, ↓z_len_msl, ↓z_len_str, ↓z_load1, ↓z_fa, ↓z_fa_ref, ↓z_callF, ↓z_andK, ↓z_orK, ↓z_and1, ↓z_and2, ↓z_and3, ↓z_and4, ↓z_and5, ↓z_and6, ↓z_and7, ↓z_and8, ↓z_and9, ↓z_and10, ↓z_and11, ↓z_and12, ↓z_or1, ↓z_or2, ↓z_or3, ↓z_or4, ↓z_or5, ↓z_or6, ↓z_or7, ↓z_or8, ↓z_or9, ↓z_or10, ↓z_or11, ↓z_or12, ↓z_add, ↓z_sub, ↓z_mul, ↓z_eql, ↓z_neq, ↓z_lss, ↓z_leq, ↓z_gtr, ↓z_geq, ↓z_not, ↓z_neg, ↓z_fin_int, ↓z_fin_bool, ↓z_fin_str, ↓z_ent_int, ↓z_ent_bool, ↓z_ent_str, ↓z_stn, ↓z_ldnn, ↓z_ldn0, ↓z_ldn1, ↓z_ldn2, ↓z_ldn3, ↓z_ldn4, ↓z_ldn5, ↓z_ldn6, ↓z_ldn7, ↓z_ldn8, List.drop_zero, List.drop_succ_cons, List.cons_append, List.nil_append, decide_eq_true_eq, decide_eq_false_iff_not, ite_not, ↓reduceIte, pub_agg, pub_int, pub_bool, pub_str, pub_fn, pub_vptr, pub_nilp, Nat.zero_add, List.length_cons, List.length_nil, Nat.reduceAdd, List.all_cons, List.all_nil, isCell_int, isCell_bool, isCell_str, isCell_sl, Bool.and_self, ↓z_loadn, Nat.reduceLeDiff, Nat.le_refl, List.take_succ_cons, List.take_zero, ↓b0, q1, q2, decide_true, decide_false, Bool.false_eq_true]
    refine (z_ldB G X h3 _).trans ?_
    rw [appendS_sl]
    refine (z_appB G X h3 (by omega) [99, 111, 110, 115, 116, 32] (by simp) (by simp) (elems_str _ _) _ _).trans ?_
    have bw := fun (k : K1) => z_ld_own (T := T1) (G := G) (X := X) (k := k) (box_wo h3.t hb3 (A ++ [99, 111, 110, 115, 116, 32]).length) (o := 1) rfl
    simp -implicitDefEqProofs only [↓z_ret, ↓z_val, ↓z_pick, ↓z_cond, ↓z_boxRo_agg, ↓z_boxRo_int, ↓z_boxRo_bool, ↓z_boxRo_str, ↓z_boxRo_sl, ↓z_boxRo_fn, ↓z_boxRo_vptr, ↓z_boxRo_ref, ↓z_len_sl, ↓z_len_msl, ↓z_len_str, ↓z_load1, ↓z_fa, ↓z_fa_ref, ↓z_callF, ↓z_andK, ↓z_orK, ↓z_and1, ↓z_and2, ↓z_and3, ↓z_and4, ↓z_and5, ↓z_and6, ↓z_and7, ↓z_and8, ↓z_and9, ↓z_and10, ↓z_and11, ↓z_and12, ↓z_or1, ↓z_or2, ↓z_or3, ↓z_or4, ↓z_or5, ↓z_or6, ↓z_or7, ↓z_or8, ↓z_or9, ↓z_or10, ↓z_or11, ↓z_or12, ↓z_add, ↓z_sub, ↓z_mul, ↓z_eql, ↓z_neq, ↓z_lss, ↓z_leq, ↓z_gtr, ↓z_geq, ↓z_not, ↓z_neg, ↓z_fin_int, ↓z_fin_bool, ↓z_fin_str, ↓z_ent_int, ↓z_ent_bool, ↓z_ent_str, ↓z_stn, ↓z_ldnn, ↓z_ldn0, ↓z_ldn1, ↓z_ldn2, ↓z_ldn3, ↓z_ldn4, ↓z_ldn5, ↓z_ldn6, ↓z_ldn7, ↓z_ldn8, List.drop_zero, List.drop_succ_cons, List.cons_append, List.nil_append, decide_eq_true_eq, decide_eq_false_iff_not, ite_not, ↓reduceIte, pub_agg, pub_int, pub_bool, pub_str, pub_fn, pub_vptr, pub_nilp, Nat.zero_add, List.length_cons, List.length_nil, Nat.reduceAdd, List.all_cons, List.all_nil, isCell_int, isCell_bool, isCell_str, isCell_sl, Bool.and_self, ↓z_loadn, Nat.reduceLeDiff, Nat.le_refl, List.take_succ_cons, List.take_zero, ↓bw, pub_slg]
    refine (z_call (z_intB G X hG h3 x.a sm.1 (A ++ [99, 111, 110, 115, 116, 32]) (by simp; omega)) rfl).trans ?_
    refine (z_stU G X h3 _).trans ?_
    exact hk _ (upd_tb h3) rfl
  have q2 := eq_false h2
  by_cases h6 : x.op = 6
  · have q6 := eq_true h6
    rw [bodyT, if_neg h1, if_neg h2, if_pos h6] at hk
    simp -implicitDefEqProofs only [↓z_ret, ↓z_val, ↓z_pick, ↓z_cond, ↓z_boxRo_agg, ↓z_boxRo_int, ↓z_boxRo_bool, ↓z_boxRo_str, ↓z_boxRo_sl, ↓z_boxRo_fn, ↓z_boxRo_vptr, ↓z_boxRo_ref, ↓z_len_sl, ↓z_len_msl, ↓z_len_str, ↓z_load1, ↓z_fa, ↓z_fa_ref, ↓z_callF, ↓z_andK, ↓z_orK, ↓z_and1, ↓z_and2, ↓z_and3, ↓z_and4, ↓z_and5, ↓z_and6, ↓z_and7, ↓z_and8, ↓z_and9, ↓z_and10, ↓z_and11, ↓z_and12, ↓z_or1, ↓z_or2, ↓z_or3, ↓z_or4, ↓z_or5, ↓z_or6, ↓z_or7, ↓z_or8, ↓z_or9, ↓z_or10, ↓z_or11, ↓z_or12, ↓z_add, ↓z_sub, ↓z_mul, ↓z_eql, ↓z_neq, ↓z_lss, ↓z_leq, ↓z_gtr, ↓z_geq, ↓z_not, ↓z_neg, ↓z_fin_int, ↓z_fin_bool, ↓z_fin_str, ↓z_ent_int, ↓z_ent_bool, ↓z_ent_str, ↓z_stn, ↓z_ldnn, ↓z_ldn0, ↓z_ldn1, ↓z_ldn2, ↓z_ldn3, ↓z_ldn4, ↓z_ldn5, ↓z_ldn6, ↓z_ldn7, ↓z_ldn8, List.drop_zero, List.drop_succ_cons, List.cons_append, List.nil_append, decide_eq_true_eq, decide_eq_false_iff_not, ite_not, ↓reduceIte, pub_agg, pub_int, pub_bool, pub_str, pub_fn, pub_vptr, pub_nilp, Nat.zero_add, List.length_cons, List.length_nil, Nat.reduceAdd, List.all_cons, List.all_nil, isCell_int, isCell_bool, isCell_str, isCell_sl, Bool.and_self, ↓z_loadn, Nat.reduceLeDiff, Nat.le_refl, List.take_succ_cons, List.take_zero, ↓b0, q1, q2, q6, decide_true, decide_false, Bool.false_eq_true]
    refine (z_ldB G X h3 _).trans ?_
    refine (z_putB G X h3 (by omega) [114, 111, 111, 116, 32] (by simp) (by simp) (elems_str _ _) _ _).trans ?_
    have h4 := upd_tb (acc' := A ++ [114, 111, 111, 116, 32]) h3
    have hb4 := upd_own hq ⟨_, h3.t⟩ hb3 (A ++ [114, 111, 111, 116, 32])
    have bw := fun (k : K1) => z_ld_own (T := T1) (G := G) (X := X) (k := k) hb4 (o := 1) rfl
    simp -implicitDefEqProofs only [↓z_ret, ↓z_val, ↓z_pick, ↓z_cond, ↓z_boxRo_agg, ↓z_boxRo_int, ↓z_boxRo_bool, ↓z_boxRo_str, ↓z_boxRo_sl, ↓z_boxRo_fn, ↓z_boxRo_vptr, ↓z_boxRo_ref, ↓z_len_sl, ↓z_len_msl, ↓z_len_str, ↓z_load1, ↓z_fa, ↓z_fa_ref, ↓z_callF, ↓z_andK, ↓z_orK, ↓z_and1, ↓z_and2, ↓z_and3, ↓z_and4, ↓z_and5, ↓z_and6, ↓z_and7, ↓z_and8, ↓z_and9, ↓z_and10, ↓z_and11, ↓z_and12, ↓z_or1, ↓z_or2, ↓z_or3, ↓z_or4, ↓z_or5, ↓z_or6, ↓z_or7, ↓z_or8, ↓z_or9, ↓z_or10, ↓z_or11, ↓z_or12, ↓z_add, ↓z_sub, ↓z_mul, ↓z_eql, ↓z_neq, ↓z_lss, ↓z_leq, ↓z_gtr, ↓z_geq, ↓z_not, ↓z_neg, ↓z_fin_int, ↓z_fin_bool, ↓z_fin_str, ↓z_ent_int, ↓z_ent_bool, ↓z_ent_str, ↓z_stn, ↓z_ldnn, ↓z_ldn0, ↓z_ldn1, ↓z_ldn2, ↓z_ldn3, ↓z_ldn4, ↓z_ldn5, ↓z_ldn6, ↓z_ldn7, ↓z_ldn8, List.drop_zero, List.drop_succ_cons, List.cons_append, List.nil_append, decide_eq_true_eq, decide_eq_false_iff_not, ite_not, ↓reduceIte, pub_agg, pub_int, pub_bool, pub_str, pub_fn, pub_vptr, pub_nilp, Nat.zero_add, List.length_cons, List.length_nil, Nat.reduceAdd, List.all_cons, List.all_nil, isCell_int, isCell_bool, isCell_str, isCell_sl, Bool.and_self, ↓z_loadn, Nat.reduceLeDiff, Nat.le_refl, List.take_succ_cons, List.take_zero, ↓bw]
    refine (z_call (f59_ok G X hG h4 (by simp; omega) x.a sm.1) rfl).trans ?_
    have e : A ++ [114, 111, 111, 116, 32] ++ [114] ++ dgI x.a = A ++ ([114, 111, 111, 116, 32, 114] ++ dgI x.a) := by simp
    rw [e]
    exact hk _ (upd_tb h4) rfl
  have q6 := eq_false h6
  have w : ∃ j : Nat, IntKind.wrap .i64 (x.op - 3) = (j : Int) ∧ j = (x.op - 3).toNat := ⟨(x.op - 3).toNat, by rw [wrap_in _ (by omega) (by omega)]; omega, rfl⟩
  obtain ⟨j, hj, hj2⟩ := w
  have hc : ∃ c : Nat, [43, 45, 42][j]? = some c ∧ bodyT x = [114] ++ dgI x.a ++ [32, c, 32, 114] ++ dgI x.b := by
    have : j = 0 ∨ j = 1 ∨ j = 2 := by omega
    rcases this with e | e | e
    · have : x.op = 3 := by omega
      exact ⟨43, by rw [e]; rfl, by rw [bodyT, if_neg h1, if_neg h2, if_neg h6, if_pos this]⟩
    · have : x.op = 4 := by omega
      exact ⟨45, by rw [e]; rfl, by rw [bodyT, if_neg h1, if_neg h2, if_neg h6, if_neg (by omega), if_pos this]⟩
    · have : x.op = 5 := by omega
      exact ⟨42, by rw [e]; rfl, by rw [bodyT, if_neg h1, if_neg h2, if_neg h6, if_neg (by omega), if_neg (by omega)]⟩
  obtain ⟨c, hc, hbody⟩ := hc
  rw [hbody] at hk
  simp -implicitDefEqProofs only [↓z_ret, ↓z_val, ↓z_pick, ↓z_cond, ↓z_boxRo_agg, ↓z_boxRo_int, ↓z_boxRo_bool, ↓z_boxRo_str, ↓z_boxRo_sl, ↓z_boxRo_fn, ↓z_boxRo_vptr, ↓z_boxRo_ref, ↓z_len_sl, ↓z_len_msl, ↓z_len_str, ↓z_load1, ↓z_fa, ↓z_fa_ref, ↓z_callF, ↓z_andK, ↓z_orK, ↓z_and1, ↓z_and2, ↓z_and3, ↓z_and4, ↓z_and5, ↓z_and6, ↓z_and7, ↓z_and8, ↓z_and9, ↓z_and10, ↓z_and11, ↓z_and12, ↓z_or1, ↓z_or2, ↓z_or3, ↓z_or4, ↓z_or5, ↓z_or6, ↓z_or7, ↓z_or8, ↓z_or9, ↓z_or10, ↓z_or11, ↓z_or12, ↓z_add, ↓z_sub, ↓z_mul, ↓z_eql, ↓z_neq, ↓z_lss, ↓z_leq, ↓z_gtr, ↓z_geq, ↓z_not, ↓z_neg, ↓z_fin_int, ↓z_fin_bool, ↓z_fin_str, ↓z_ent_int, ↓z_ent_bool, ↓z_ent_str, ↓z_stn, ↓z_ldnn, ↓z_ldn0, ↓z_ldn1, ↓z_ldn2, ↓z_ldn3, ↓z_ldn4, ↓z_ldn5, ↓z_ldn6, ↓z_ldn7, ↓z_ldn8, List.drop_zero, List.drop_succ_cons, List.cons_append, List.nil_append, decide_eq_true_eq, decide_eq_false_iff_not, ite_not, ↓reduceIte, pub_agg, pub_int, pub_bool, pub_str, pub_fn, pub_vptr, pub_nilp, Nat.zero_add, List.length_cons, List.length_nil, Nat.reduceAdd, List.all_cons, List.all_nil, isCell_int, isCell_bool, isCell_str, isCell_sl, Bool.and_self, ↓z_loadn, Nat.reduceLeDiff, Nat.le_refl, List.take_succ_cons, List.take_zero, ↓b0, q1, q2, q6, decide_false, Bool.false_eq_true, ↓b1]
  refine (z_call (f59_ok G X hG h3 (by omega) x.a sm.1) rfl).trans ?_
  have h4 := upd_tb (acc' := A ++ [114] ++ dgI x.a) h3
  have hb4 := upd_own hq ⟨_, h3.t⟩ hb3 (A ++ [114] ++ dgI x.a)
  have hd4 : (upd S3 J (A ++ [114] ++ dgI x.a)).depth = S3.depth := rfl
  have hl4 : (A ++ [114] ++ dgI x.a).length ≤ 700010 := by simp at hl3 ⊢; omega
  generalize upd S3 J (A ++ [114] ++ dgI x.a) = S4 at *
  refine (z_ldB G X h4 _).trans ?_
  have bw := fun (k : K1) => z_ld_own (T := T1) (G := G) (X := X) (k := k) hb4 (o := 0) rfl
  have hix := fun (k : K1) => z_idxS G X (s := S4) (k := k) [43, 45, 42] .i64 j c hc
  simp -implicitDefEqProofs only [↓z_ret, ↓z_val, ↓z_pick, ↓z_cond, ↓z_boxRo_agg, ↓z_boxRo_int, ↓z_boxRo_bool, ↓z_boxRo_str, ↓z_boxRo_sl, ↓z_boxRo_fn, ↓z_boxRo_vptr, ↓z_boxRo_ref, ↓z_len_sl, ↓z_len_msl, ↓z_len_str, ↓z_load1, ↓z_fa, ↓z_fa_ref, ↓z_callF, ↓z_andK, ↓z_orK, ↓z_and1, ↓z_and2, ↓z_and3, ↓z_and4, ↓z_and5, ↓z_and6, ↓z_and7, ↓z_and8, ↓z_and9, ↓z_and10, ↓z_and11, ↓z_and12, ↓z_or1, ↓z_or2, ↓z_or3, ↓z_or4, ↓z_or5, ↓z_or6, ↓z_or7, ↓z_or8, ↓z_or9, ↓z_or10, ↓z_or11, ↓z_or12, ↓z_add, ↓z_sub, ↓z_mul, ↓z_eql, ↓z_neq, ↓z_lss, ↓z_leq, ↓z_gtr, ↓z_geq, ↓z_not, ↓z_neg, ↓z_fin_int, ↓z_fin_bool, ↓z_fin_str, ↓z_ent_int, ↓z_ent_bool, ↓z_ent_str, ↓z_stn, ↓z_ldnn, ↓z_ldn0, ↓z_ldn1, ↓z_ldn2, ↓z_ldn3, ↓z_ldn4, ↓z_ldn5, ↓z_ldn6, ↓z_ldn7, ↓z_ldn8, List.drop_zero, List.drop_succ_cons, List.cons_append, List.nil_append, decide_eq_true_eq, decide_eq_false_iff_not, ite_not, ↓reduceIte, pub_agg, pub_int, pub_bool, pub_str, pub_fn, pub_vptr, pub_nilp, Nat.zero_add, List.length_cons, List.length_nil, Nat.reduceAdd, List.all_cons, List.all_nil, isCell_int, isCell_bool, isCell_str, isCell_sl, Bool.and_self, ↓z_loadn, Nat.reduceLeDiff, Nat.le_refl, List.take_succ_cons, List.take_zero, ↓bw, hj, ↓hix, ↓z_bs3b]
  refine (z_putB G X h4 (by omega) [32, c, 32] (by simp) (by simp) rfl _ _).trans ?_
  have h5 := upd_tb (acc' := A ++ [114] ++ dgI x.a ++ [32, c, 32]) h4
  have hb5 := upd_own hq ⟨_, h4.t⟩ hb4 (A ++ [114] ++ dgI x.a ++ [32, c, 32])
  have bw2 := fun (k : K1) => z_ld_own (T := T1) (G := G) (X := X) (k := k) hb5 (o := 2) rfl
  have hd5 : (upd S4 J (A ++ [114] ++ dgI x.a ++ [32, c, 32])).depth = S3.depth := hd4
  have hl5 : (A ++ [114] ++ dgI x.a ++ [32, c, 32]).length ≤ 700020 := by simp at hl4 ⊢; omega
  generalize upd S4 J (A ++ [114] ++ dgI x.a ++ [32, c, 32]) = S5 at *
  rw [← hd5]
  simp -implicitDefEqProofs only [↓z_ret, ↓z_val, ↓z_pick, ↓z_cond, ↓z_boxRo_agg, ↓z_boxRo_int, ↓z_boxRo_bool, ↓z_boxRo_str, ↓z_boxRo_sl, ↓z_boxRo_fn, ↓z_boxRo_vptr, ↓z_boxRo_ref, ↓z_len_sl, ↓z_len_msl, ↓z_len_str, ↓z_load1, ↓z_fa, ↓z_fa_ref, ↓z_callF, ↓z_andK, ↓z_orK, ↓z_and1, ↓z_and2, ↓z_and3, ↓z_and4, ↓z_and5, ↓z_and6, ↓z_and7, ↓z_and8, ↓z_and9, ↓z_and10, ↓z_and11, ↓z_and12, ↓z_or1, ↓z_or2, ↓z_or3, ↓z_or4, ↓z_or5, ↓z_or6, ↓z_or7, ↓z_or8, ↓z_or9, ↓z_or10, ↓z_or11, ↓z_or12, ↓z_add, ↓z_sub, ↓z_mul, ↓z_eql, ↓z_neq, ↓z_lss, ↓z_leq, ↓z_gtr, ↓z_geq, ↓z_not, ↓z_neg, ↓z_fin_int, ↓z_fin_bool, ↓z_fin_str, ↓z_ent_int, ↓z_ent_bool, ↓z_ent_str, ↓z_stn, ↓z_ldnn, ↓z_ldn0, ↓z_ldn1, ↓z_ldn2, ↓z_ldn3, ↓z_ldn4, ↓z_ldn5, ↓z_ldn6, ↓z_ldn7, ↓z_ldn8, List.drop_zero, List.drop_succ_cons, List.cons_append, List.nil_append, decide_eq_true_eq, decide_eq_false_iff_not, ite_not, ↓reduceIte, pub_agg, pub_int, pub_bool, pub_str, pub_fn, pub_vptr, pub_nilp, Nat.zero_add, List.length_cons, List.length_nil, Nat.reduceAdd, List.all_cons, List.all_nil, isCell_int, isCell_bool, isCell_str, isCell_sl, Bool.and_self, ↓z_loadn, Nat.reduceLeDiff, Nat.le_refl, List.take_succ_cons, List.take_zero, ↓bw2]
  refine (z_call (f59_ok G X hG h5 (by omega) x.b sm.2) rfl).trans ?_
  have e : A ++ [114] ++ dgI x.a ++ [32, c, 32] ++ [114] ++ dgI x.b = A ++ ([114] ++ dgI x.a ++ [32, c, 32, 114] ++ dgI x.b) := by simp
  rw [e, hd5]
  exact hk _ (upd_tb h5) hd5
end
end Go.AbX
end
section
namespace Go.AbX
open Go.Ab
set_option linter.unusedSimpArgs false
set_option linter.unusedVariables false
set_option maxRecDepth 100000
theorem upd_tb' {s S : St} {J : Nat} {acc' : List Nat} (hc : Child s S) (j0 : 0 < J) (hj : J < S.own.length) (h0 : 0 < S.own.length) : TB s (upd S J acc') acc' J where
  ch := ⟨hc.up, hc.ro⟩
  j0 := j0
  b := by
    show ((S.own.set J _).set 0 _)[0]? = _
    simp [h0]
    rfl
  t := by
    show ((S.own.set J _).set 0 _)[J]? = _
    rw [List.getElem?_set_ne (by omega)]
    simp [hj]
theorem own_new_ {S : St} {j : Nat} {o : AObj} (h : S.own[j]? = some o) (o' : AObj) : (S.new o').own[j]? = some o := by
  have hj := (List.getElem?_eq_some_iff.1 h).1
  simp -implicitDefEqProofs only [St.new]
  rw [List.getElem?_append_left hj]
  exact h
/-- The state of the loop: nothing is written yet, or something. -/
def LB (s S : St) (acc : List Nat) : Prop := Child s S ∧ ((acc = [] ∧ S.own[0]? = some (.cells [.sl 1 [] .nil])) ∨ ∃ J, TB s S acc J)
section
variable (G : Nat → AV) (X : Nat → List AV → St → Res)
theorem f33_l2_ok (hG : G 0 = .vptr powCs) (p : Prog) (s : St) (D : Nat) (h8 : p.ins.length ≤ 8192) (hin : p.inputs ≤ 20) : ∀ (n i : Nat) (acc : List Nat) (S : St), i + n = p.ins.length → okAll p.inputs (p.ins.drop i) i = true → LB s S acc → S.depth = D → (∀ b, b ∈ acc → b < 256) → acc.length ≤ 30 * i →
    f33_l2 (PP T1 G X) (.ref (.l 0) 0) (.fn 59 [.ref (.g D 0) 0]) (.sl 3 (p.ins.map Ins.enc) p.gi) (I p.ins.length) (.int .i64 (i : Int)) S = .ok (.tup [.str (acc ++ linesT (p.ins.drop i) i), I 0]) s := by
  intro n
  induction n with
  | zero =>
    intro i acc S hi hok hLB hD hb hl
    have h : ¬ ((i : Int) < (p.ins.length : Int)) := by omega
    obtain ⟨hS, hor⟩ := hLB
    have : ∃ g, ∀ k : K1, (PP T1 G X).load S k none (.ref (.l 0) 0) = k (.sl 1 (acc.map B) g) S := by
      rcases hor with ⟨rfl, h0⟩ | ⟨J, hT⟩
      · exact ⟨.nil, fun k => z_ld_own h0 rfl⟩
      · exact ⟨_, fun k => z_ldB G X hT k⟩
    obtain ⟨g, hld⟩ := this
    have hbs := fun (k : K1) => z_b2s_all G X S k acc g hb
    rw [f33_l2_eq _ (PP_ok _ _ _)]
    simp -implicitDefEqProofs only [↓z_ret, ↓z_val, ↓z_pick, ↓z_cond, ↓z_boxRo_agg, ↓z_boxRo_int, ↓z_boxRo_bool, ↓z_boxRo_str, ↓z_boxRo_sl, ↓z_boxRo_fn, ↓z_boxRo_vptr, ↓z_boxRo_ref, ↓z_len_sl, ↓z_len_msl, ↓z_len_str, ↓z_load1, ↓z_fa, ↓z_fa_ref, ↓z_callF, ↓z_andK, ↓z_orK, ↓z_and1, ↓z_and2, ↓z_and3, ↓z_and4, ↓z_and5, ↓z_and6, ↓z_and7, ↓z_and8, ↓z_and9, ↓z_and10, ↓z_and11, ↓z_and12, ↓z_or1, ↓z_or2, ↓z_or3, ↓z_or4, ↓z_or5, ↓z_or6, ↓z_or7, ↓z_or8, ↓z_or9, ↓z_or10, ↓z_or11, ↓z_or12, ↓z_add, ↓z_sub, ↓z_mul, ↓z_eql, ↓z_neq, ↓z_lss, ↓z_leq, ↓z_gtr, ↓z_geq, ↓z_not, ↓z_neg, ↓z_fin_int, ↓z_fin_bool, ↓z_fin_str, ↓z_ent_int, ↓z_ent_bool, ↓z_ent_str, ↓z_stn, ↓z_ldnn, ↓z_ldn0, ↓z_ldn1, ↓z_ldn2, ↓z_ldn3, ↓z_ldn4, ↓z_ldn5, ↓z_ldn6, ↓z_ldn7, ↓z_ldn8, List.drop_zero, List.drop_succ_cons, List.cons_append, List.nil_append, decide_eq_true_eq, decide_eq_false_iff_not, ite_not, ↓reduceIte, pub_agg, pub_int, pub_bool, pub_str, pub_fn, pub_vptr, pub_nilp, Nat.zero_add, List.length_cons, List.length_nil, Nat.reduceAdd, List.all_cons, List.all_nil, isCell_int, isCell_bool, isCell_str, isCell_sl, Bool.and_self, ↓z_loadn, Nat.reduceLeDiff, Nat.le_refl, List.take_succ_cons, List.take_zero, eq_false h, decide_false, Bool.false_eq_true, f33_j6_eq _ (PP_ok _ _ _), ↓hld, ↓hbs]
    rw [z_finC2 hS _ _ _ _ rfl rfl, List.drop_of_length_le (by omega)]
    simp -implicitDefEqProofs only [linesT, List.append_nil]
  | succ n ih =>
    intro i acc S hi hok hLB hD hb hl
    have h : (i : Int) < (p.ins.length : Int) := by omega
    have hlt : i < p.ins.length := by omega
    obtain ⟨x, hx⟩ : ∃ x, p.ins[i]? = some x := ⟨_, List.getElem?_eq_getElem hlt⟩
    have hx' := (List.getElem?_eq_some_iff.1 hx).2
    rw [List.drop_eq_getElem_cons hlt, hx'] at hok ⊢
    simp -implicitDefEqProofs only [okAll, Bool.and_eq_true] at hok
    have sm := okIns_small hok.1 (by omega) hin
    have hll := lineT_len sm (show i < 8192 by omega)
    have li := dgI_len5 (i : Int) (by omega)
    have hw : IntKind.wrap .i64 ((i : Int) + 1) = ((i + 1 : Nat) : Int) := wrap_succ i (by omega)
    obtain ⟨hS, hor⟩ := hLB
    have hreg : ∃ S2 J, callω T1 G X 59 [.int .i64 (i : Int), .ref (.g S.depth 0) 0] (S.new (.cells [I x.op, I x.a, I x.b])) = .ok (.tup []) S2 ∧ TB s S2 (acc ++ [114] ++ dgI (i : Int)) J ∧ S2.depth = S.depth ∧ 0 < S.own.length ∧ S2.own[S.own.length]? = some (.cells [I x.op, I x.a, I x.b]) := by
      have hbox : (S.new (.cells [I x.op, I x.a, I x.b])).own[S.own.length]? = some (.cells [I x.op, I x.a, I x.b]) := by simp [St.new]
      rcases hor with ⟨rfl, h0⟩ | ⟨J, hT⟩
      · have hlen := (List.getElem?_eq_some_iff.1 h0).1
        have h0' := own_new_ h0 (.cells [I x.op, I x.a, I x.b])
        have hc2 : Child s ((S.new (.cells [I x.op, I x.a, I x.b])).new (.tok 1)) := (hS.new _).new _
        refine ⟨_, (S.new (.cells [I x.op, I x.a, I x.b])).own.length, f59_nil G X hG h0' (i : Int) (by omega), ?_, rfl, hlen, ?_⟩
        · have := upd_tb' (acc' := [] ++ [114] ++ dgI (i : Int)) hc2 (J := (S.new (.cells [I x.op, I x.a, I x.b])).own.length) (by simp [St.new]) (by simp [St.new]) (by simp [St.new])
          exact this
        · exact upd_own hlen ⟨1, by simp [St.new]⟩ (own_new_ hbox _) _
      · have hlen := (List.getElem?_eq_some_iff.1 hT.b).1
        have hT' : TB s (S.new (.cells [I x.op, I x.a, I x.b])) acc J := ⟨hS.new _, hT.j0, own_new_ hT.b _, own_new_ hT.t _⟩
        refine ⟨_, J, f59_ok G X hG hT' (by omega) (i : Int) (by omega), upd_tb hT', rfl, hlen, ?_⟩
        exact upd_own hlen ⟨_, hT'.t⟩ hbox _
    obtain ⟨S2, J, h59, hT2, hd2, hq, hb2⟩ := hreg
    have step := f33_j3_ok G X hG p x i (by omega) hx (okIns_op hok.1) sm (I p.ins.length) hS h59 hT2 hd2 (by simp; omega) hq hb2 (.ok (.tup [.str (acc ++ linesT (x :: p.ins.drop (i + 1)) i), I 0]) s) (fun S' hT hd => by
      have hP : acc ++ lineT i x = acc ++ [114] ++ dgI (i : Int) ++ [32, 61, 32] ++ bodyT x ++ [10] := by simp [lineT]
      have hlen : (acc ++ lineT i x).length = (acc ++ [114] ++ dgI (i : Int) ++ [32, 61, 32] ++ bodyT x).length + 1 := by rw [hP, List.length_append]; rfl
      have hlen2 : (acc ++ lineT i x).length ≤ 30 * (i + 1) := by rw [List.length_append]; omega
      generalize acc ++ [114] ++ dgI (i : Int) ++ [32, 61, 32] ++ bodyT x = P at *
      rw [f33_j4_eq _ (PP_ok _ _ _)]
      refine (z_ldB G X hT _).trans ?_
      simp -implicitDefEqProofs only [↓z_bs1b]
      refine (z_putB G X hT (by omega) [10] (by simp) (by simp) rfl _ _).trans ?_
      rw [f33_j5_eq _ (PP_ok _ _ _)]
      simp -implicitDefEqProofs only [↓z_ret, ↓z_val, ↓z_pick, ↓z_cond, ↓z_boxRo_agg, ↓z_boxRo_int, ↓z_boxRo_bool, ↓z_boxRo_str, ↓z_boxRo_sl, ↓z_boxRo_fn, ↓z_boxRo_vptr, ↓z_boxRo_ref, ↓z_len_sl, ↓z_len_msl, ↓z_len_str, ↓z_load1, ↓z_fa, ↓z_fa_ref, ↓z_callF, ↓z_andK, ↓z_orK, ↓z_and1, ↓z_and2, ↓z_and3, ↓z_and4, ↓z_and5, ↓z_and6, ↓z_and7, ↓z_and8, ↓z_and9, ↓z_and10, ↓z_and11, ↓z_and12, ↓z_or1, ↓z_or2, ↓z_or3, ↓z_or4, ↓z_or5, ↓z_or6, ↓z_or7, ↓z_or8, ↓z_or9, ↓z_or10, ↓z_or11, ↓z_or12, ↓z_add, ↓z_sub, ↓z_mul, ↓z_eql, ↓z_neq, ↓z_lss, ↓z_leq, ↓z_gtr, ↓z_geq, ↓z_not, ↓z_neg, ↓z_fin_int, ↓z_fin_bool, ↓z_fin_str, ↓z_ent_int, ↓z_ent_bool, ↓z_ent_str, ↓z_stn, ↓z_ldnn, ↓z_ldn0, ↓z_ldn1, ↓z_ldn2, ↓z_ldn3, ↓z_ldn4, ↓z_ldn5, ↓z_ldn6, ↓z_ldn7, ↓z_ldn8, List.drop_zero, List.drop_succ_cons, List.cons_append, List.nil_append, decide_eq_true_eq, decide_eq_false_iff_not, ite_not, ↓reduceIte, pub_agg, pub_int, pub_bool, pub_str, pub_fn, pub_vptr, pub_nilp, Nat.zero_add, List.length_cons, List.length_nil, Nat.reduceAdd, List.all_cons, List.all_nil, isCell_int, isCell_bool, isCell_str, isCell_sl, Bool.and_self, ↓z_loadn, Nat.reduceLeDiff, Nat.le_refl, List.take_succ_cons, List.take_zero, hw]
      have := ih (i + 1) (acc ++ lineT i x) (upd S' J (P ++ [10])) (by omega) hok.2 ⟨⟨hT.ch.up, hT.ch.ro⟩, .inr ⟨J, by rw [hP]; exact upd_tb hT⟩⟩ (hd.trans hD) (byt_app hb (lineT_byte x i)) hlen2
      simp -implicitDefEqProofs only [linesT, ← List.append_assoc] at this ⊢
      rw [← this, hD])
    rw [f33_l2_eq _ (PP_ok _ _ _)]
    simp -implicitDefEqProofs only [↓z_ret, ↓z_val, ↓z_pick, ↓z_cond, ↓z_boxRo_agg, ↓z_boxRo_int, ↓z_boxRo_bool, ↓z_boxRo_str, ↓z_boxRo_sl, ↓z_boxRo_fn, ↓z_boxRo_vptr, ↓z_boxRo_ref, ↓z_len_sl, ↓z_len_msl, ↓z_len_str, ↓z_load1, ↓z_fa, ↓z_fa_ref, ↓z_callF, ↓z_andK, ↓z_orK, ↓z_and1, ↓z_and2, ↓z_and3, ↓z_and4, ↓z_and5, ↓z_and6, ↓z_and7, ↓z_and8, ↓z_and9, ↓z_and10, ↓z_and11, ↓z_and12, ↓z_or1, ↓z_or2, ↓z_or3, ↓z_or4, ↓z_or5, ↓z_or6, ↓z_or7, ↓z_or8, ↓z_or9, ↓z_or10, ↓z_or11, ↓z_or12, ↓z_add, ↓z_sub, ↓z_mul, ↓z_eql, ↓z_neq, ↓z_lss, ↓z_leq, ↓z_gtr, ↓z_geq, ↓z_not, ↓z_neg, ↓z_fin_int, ↓z_fin_bool, ↓z_fin_str, ↓z_ent_int, ↓z_ent_bool, ↓z_ent_str, ↓z_stn, ↓z_ldnn, ↓z_ldn0, ↓z_ldn1, ↓z_ldn2, ↓z_ldn3, ↓z_ldn4, ↓z_ldn5, ↓z_ldn6, ↓z_ldn7, ↓z_ldn8, List.drop_zero, List.drop_succ_cons, List.cons_append, List.nil_append, decide_eq_true_eq, decide_eq_false_iff_not, ite_not, ↓reduceIte, pub_agg, pub_int, pub_bool, pub_str, pub_fn, pub_vptr, pub_nilp, Nat.zero_add, List.length_cons, List.length_nil, Nat.reduceAdd, List.all_cons, List.all_nil, isCell_int, isCell_bool, isCell_str, isCell_sl, Bool.and_self, ↓z_loadn, Nat.reduceLeDiff, Nat.le_refl, List.take_succ_cons, List.take_zero, eq_true h, decide_true]
    rw [← hD]
    exact step
theorem f33_ok (hG : G 0 = .vptr powCs) (p : Prog) (s : St) (hv : p.vals.length ≤ 9223372036854775807) (hvv : ∀ v, v ∈ p.vals → v.1.length ≤ 9223372036854775807) : callω T1 G X 33 [p.enc] s = .ok (textR p) s := by
  rw [f33_call, f33_eq]
  have h52 := f52_ok G X p s.enter hv hvv
  unfold textR
  simp -implicitDefEqProofs only [Prog.enc, Prog.cs] at h52
  by_cases hc : p.check = 0
  · have hl := f33_l2_ok G X hG p s s.enter.depth (check0 hc).1 (check0 hc).2.1 p.ins.length 0 [] (s.enter.new (.cells [.sl 1 [] .nil])) (by omega) (check0 hc).2.2 ⟨(Child.enter s).new _, .inl ⟨rfl, rfl⟩⟩ rfl (by simp) (by simp)
    simp -implicitDefEqProofs only [Int.natCast_zero, List.drop_zero, Prog.cs, List.map_nil, List.nil_append] at hl
    simp -implicitDefEqProofs only [Prog.enc, Prog.cs, ↓z_ret, ↓z_val, ↓z_pick, ↓z_cond, ↓z_boxRo_agg, ↓z_boxRo_int, ↓z_boxRo_bool, ↓z_boxRo_str, ↓z_boxRo_sl, ↓z_boxRo_fn, ↓z_boxRo_vptr, ↓z_boxRo_ref, ↓z_len_sl, ↓z_len_msl, ↓z_len_str, ↓z_load1, ↓z_fa, ↓z_fa_ref, ↓z_callF, ↓z_andK, ↓z_orK, ↓z_and1, ↓z_and2, ↓z_and3, ↓z_and4, ↓z_and5, ↓z_and6, ↓z_and7, ↓z_and8, ↓z_and9, ↓z_and10, ↓z_and11, ↓z_and12, ↓z_or1, ↓z_or2, ↓z_or3, ↓z_or4, ↓z_or5, ↓z_or6, ↓z_or7, ↓z_or8, ↓z_or9, ↓z_or10, ↓z_or11, ↓z_or12, ↓z_add, ↓z_sub, ↓z_mul, ↓z_eql, ↓z_neq, ↓z_lss, ↓z_leq, ↓z_gtr, ↓z_geq, ↓z_not, ↓z_neg, ↓z_fin_int, ↓z_fin_bool, ↓z_fin_str, ↓z_ent_int, ↓z_ent_bool, ↓z_ent_str, ↓z_stn, ↓z_ldnn, ↓z_ldn0, ↓z_ldn1, ↓z_ldn2, ↓z_ldn3, ↓z_ldn4, ↓z_ldn5, ↓z_ldn6, ↓z_ldn7, ↓z_ldn8, List.drop_zero, List.drop_succ_cons, List.cons_append, List.nil_append, decide_eq_true_eq, decide_eq_false_iff_not, ite_not, ↓reduceIte, pub_agg, pub_int, pub_bool, pub_str, pub_fn, pub_vptr, pub_nilp, Nat.zero_add, List.length_cons, List.length_nil, Nat.reduceAdd, List.all_cons, List.all_nil, isCell_int, isCell_bool, isCell_str, isCell_sl, Bool.and_self, ↓z_loadn, Nat.reduceLeDiff, Nat.le_refl, List.take_succ_cons, List.take_zero, z_call0 h52, eq_true hc, not_true_eq_false, decide_false, Bool.false_eq_true, f33_j1_eq _ (PP_ok _ _ _), List.length_map]
    exact hl
  · simp -implicitDefEqProofs only [Prog.enc, Prog.cs, ↓z_ret, ↓z_val, ↓z_pick, ↓z_cond, ↓z_boxRo_agg, ↓z_boxRo_int, ↓z_boxRo_bool, ↓z_boxRo_str, ↓z_boxRo_sl, ↓z_boxRo_fn, ↓z_boxRo_vptr, ↓z_boxRo_ref, ↓z_len_sl, ↓z_len_msl, ↓z_len_str, ↓z_load1, ↓z_fa, ↓z_fa_ref, ↓z_callF, ↓z_andK, ↓z_orK, ↓z_and1, ↓z_and2, ↓z_and3, ↓z_and4, ↓z_and5, ↓z_and6, ↓z_and7, ↓z_and8, ↓z_and9, ↓z_and10, ↓z_and11, ↓z_and12, ↓z_or1, ↓z_or2, ↓z_or3, ↓z_or4, ↓z_or5, ↓z_or6, ↓z_or7, ↓z_or8, ↓z_or9, ↓z_or10, ↓z_or11, ↓z_or12, ↓z_add, ↓z_sub, ↓z_mul, ↓z_eql, ↓z_neq, ↓z_lss, ↓z_leq, ↓z_gtr, ↓z_geq, ↓z_not, ↓z_neg, ↓z_fin_int, ↓z_fin_bool, ↓z_fin_str, ↓z_ent_int, ↓z_ent_bool, ↓z_ent_str, ↓z_stn, ↓z_ldnn, ↓z_ldn0, ↓z_ldn1, ↓z_ldn2, ↓z_ldn3, ↓z_ldn4, ↓z_ldn5, ↓z_ldn6, ↓z_ldn7, ↓z_ldn8, List.drop_zero, List.drop_succ_cons, List.cons_append, List.nil_append, decide_eq_true_eq, decide_eq_false_iff_not, ite_not, ↓reduceIte, pub_agg, pub_int, pub_bool, pub_str, pub_fn, pub_vptr, pub_nilp, Nat.zero_add, List.length_cons, List.length_nil, Nat.reduceAdd, List.all_cons, List.all_nil, isCell_int, isCell_bool, isCell_str, isCell_sl, Bool.and_self, ↓z_loadn, Nat.reduceLeDiff, Nat.le_refl, List.take_succ_cons, List.take_zero, z_call0 h52, eq_false hc, not_false_eq_true, decide_true]
    exact z_finC2 (.enter s) _ _ _ _ rfl rfl
end
end Go.AbX
end
section
namespace Go.AbX
open Go.Ab
set_option linter.unusedSimpArgs false
set_option linter.unusedVariables false
set_option maxRecDepth 100000
section
variable (G : Nat → AV) (X : Nat → List AV → St → Res)
theorem z_ext0 {s : St} {k : K1} (a b : AV) : (PP T1 G X).extract s k 0 (.tup [a, b]) = k a s := z_extract _ _ _ rfl
theorem z_ext1 {s : St} {k : K1} (a b : AV) : (PP T1 G X).extract s k 1 (.tup [a, b]) = k b s := z_extract _ _ _ rfl
theorem z_seq {s : St} {k : K1} (a : List Nat) : (PP T1 G X).val s k (binV .eql (.str a) (.str a)) = k (.bool true) s := by
  rw [show binV .eql (.str a) (.str a) = some (.bool true) from by simp [binV, strBin]]
  rfl
theorem f6_ok (hG : G 0 = .vptr powCs) (p : Prog) (s : St) (hv : p.vals.length ≤ 9223372036854775807) (hvv : ∀ v, v ∈ p.vals → v.1.length ≤ 9223372036854775807) (h10 : ∃ s', callω T1 G X 10 [] { own := [], up := [], ro := [] } = .ok (.bool true) s') :
    callω T1 G X 6 [p.enc] s = .ok (.bool true) s := by
  obtain ⟨s10, h10⟩ := h10
  rw [f6_call, f6_eq]
  have h33 := f33_ok G X hG p s.enter hv hvv
  have h34 := f34_ok G X p s.enter hv hvv
  have : ∃ (t : List Nat) (e : Int), textR p = .tup [.str t, I e] := by
    unfold textR
    split
    · exact ⟨_, _, rfl⟩
    · exact ⟨_, _, rfl⟩
  obtain ⟨t, e, ht⟩ := this
  rw [ht] at h33 h34
  have et : e = e := rfl
  simp -implicitDefEqProofs only [Prog.enc, Prog.cs] at h33 h34
  simp -implicitDefEqProofs only [Prog.enc, Prog.cs, ↓z_ret, ↓z_val, ↓z_pick, ↓z_cond, ↓z_boxRo_agg, ↓z_boxRo_int, ↓z_boxRo_bool, ↓z_boxRo_str, ↓z_boxRo_sl, ↓z_boxRo_fn, ↓z_boxRo_vptr, ↓z_boxRo_ref, ↓z_len_sl, ↓z_len_msl, ↓z_len_str, ↓z_load1, ↓z_fa, ↓z_fa_ref, ↓z_callF, ↓z_andK, ↓z_orK, ↓z_and1, ↓z_and2, ↓z_and3, ↓z_and4, ↓z_and5, ↓z_and6, ↓z_and7, ↓z_and8, ↓z_and9, ↓z_and10, ↓z_and11, ↓z_and12, ↓z_or1, ↓z_or2, ↓z_or3, ↓z_or4, ↓z_or5, ↓z_or6, ↓z_or7, ↓z_or8, ↓z_or9, ↓z_or10, ↓z_or11, ↓z_or12, ↓z_add, ↓z_sub, ↓z_mul, ↓z_eql, ↓z_neq, ↓z_lss, ↓z_leq, ↓z_gtr, ↓z_geq, ↓z_not, ↓z_neg, ↓z_fin_int, ↓z_fin_bool, ↓z_fin_str, ↓z_ent_int, ↓z_ent_bool, ↓z_ent_str, ↓z_stn, ↓z_ldnn, ↓z_ldn0, ↓z_ldn1, ↓z_ldn2, ↓z_ldn3, ↓z_ldn4, ↓z_ldn5, ↓z_ldn6, ↓z_ldn7, ↓z_ldn8, List.drop_zero, List.drop_succ_cons, List.cons_append, List.nil_append, decide_eq_true_eq, decide_eq_false_iff_not, ite_not, ↓reduceIte, pub_agg, pub_int, pub_bool, pub_str, pub_fn, pub_vptr, pub_nilp, Nat.zero_add, List.length_cons, List.length_nil, Nat.reduceAdd, List.all_cons, List.all_nil, isCell_int, isCell_bool, isCell_str, isCell_sl, Bool.and_self, ↓z_loadn, Nat.reduceLeDiff, Nat.le_refl, List.take_succ_cons, List.take_zero, z_callP rfl h10 rfl, z_call0 h33, z_call0 h34, ↓z_ext0, ↓z_ext1, ↓z_seq, eq_true et, decide_true]
end
end Go.AbX
end
