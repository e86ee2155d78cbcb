/- Two programs that the law runs, and what their registers are. -/
import Derived.Test.YtnafklimohmfkaaGreatDoorZ1
import Derived.KernelRfl
section
/- Two programs that the law runs, and what their registers are. -/
namespace Go.AbZ
open Go.Ab
def tins0 : List Ins := [⟨1, 0, 0⟩, ⟨1, 1, 0⟩, ⟨2, 1, 0⟩, ⟨1, 2, 0⟩, ⟨1, 3, 0⟩, ⟨2, 1, 0⟩, ⟨1, 4, 0⟩, ⟨1, 5, 0⟩, ⟨2, 1, 0⟩, ⟨5, 1, 5⟩, ⟨5, 2, 4⟩, ⟨4, 9, 10⟩, ⟨5, 2, 3⟩, ⟨5, 0, 5⟩, ⟨4, 12, 13⟩, ⟨5, 0, 4⟩, ⟨5, 1, 3⟩, ⟨4, 15, 16⟩, ⟨5, 11, 11⟩, ⟨5, 14, 14⟩, ⟨3, 18, 19⟩, ⟨5, 11, 6⟩, ⟨5, 14, 7⟩, ⟨3, 21, 22⟩, ⟨5, 17, 8⟩, ⟨3, 23, 24⟩, ⟨5, 20, 6⟩, ⟨2, 2, 0⟩, ⟨5, 27, 11⟩, ⟨5, 28, 25⟩, ⟨4, 26, 29⟩, ⟨5, 20, 7⟩, ⟨2, 2, 0⟩, ⟨5, 32, 14⟩, ⟨5, 33, 25⟩, ⟨4, 31, 34⟩, ⟨5, 20, 8⟩, ⟨5, 11, 11⟩, ⟨5, 14, 14⟩, ⟨3, 37, 38⟩, ⟨5, 11, 30⟩, ⟨5, 14, 35⟩, ⟨3, 40, 41⟩, ⟨5, 17, 36⟩, ⟨3, 42, 43⟩, ⟨5, 39, 30⟩, ⟨2, 2, 0⟩, ⟨5, 46, 11⟩, ⟨5, 47, 44⟩, ⟨4, 45, 48⟩, ⟨5, 39, 35⟩, ⟨2, 2, 0⟩, ⟨5, 51, 14⟩, ⟨5, 52, 44⟩, ⟨4, 50, 53⟩, ⟨5, 39, 36⟩, ⟨5, 2, 5⟩, ⟨5, 3, 2⟩, ⟨5, 0, 5⟩, ⟨4, 57, 58⟩, ⟨5, 4, 2⟩, ⟨5, 1, 5⟩, ⟨4, 60, 61⟩, ⟨5, 59, 59⟩, ⟨5, 62, 62⟩, ⟨3, 63, 64⟩, ⟨5, 56, 56⟩, ⟨5, 8, 8⟩, ⟨5, 67, 66⟩, ⟨2, 0, 0⟩, ⟨2, 2, 0⟩, ⟨5, 70, 6⟩, ⟨5, 71, 8⟩, ⟨5, 72, 66⟩, ⟨4, 69, 73⟩, ⟨2, 0, 0⟩, ⟨2, 2, 0⟩, ⟨5, 76, 7⟩, ⟨5, 77, 8⟩, ⟨5, 78, 66⟩, ⟨4, 75, 79⟩, ⟨5, 6, 6⟩, ⟨5, 7, 7⟩, ⟨3, 81, 82⟩, ⟨5, 83, 66⟩, ⟨5, 67, 65⟩, ⟨4, 84, 85⟩, ⟨5, 6, 56⟩, ⟨5, 8, 59⟩, ⟨3, 87, 88⟩, ⟨5, 7, 56⟩, ⟨5, 8, 62⟩, ⟨3, 90, 91⟩, ⟨5, 8, 56⟩, ⟨2, 0, 0⟩, ⟨4, 94, 74⟩, ⟨2, 0, 0⟩, ⟨4, 96, 80⟩, ⟨2, 2, 0⟩, ⟨5, 98, 68⟩, ⟨5, 7, 55⟩, ⟨5, 8, 54⟩, ⟨4, 100, 101⟩, ⟨5, 8, 49⟩, ⟨5, 6, 55⟩, ⟨4, 103, 104⟩, ⟨5, 6, 54⟩, ⟨5, 7, 49⟩, ⟨4, 106, 107⟩]
def tp0 : Prog := ⟨6, tins0, .any, [([0, 1, 2], .any), ([3, 4, 5], .any), ([6, 7, 8], .any), ([11, 14, 17], .any), ([30, 35, 36], .any), ([49, 54, 55], .any), ([68, 74, 80, 86, 89, 92, 93], .any), ([95, 97, 99], .any)], .any, [], .nil⟩
def tins1 : List Ins := [⟨1, 0, 0⟩, ⟨1, 1, 0⟩, ⟨2, 1, 0⟩, ⟨1, 2, 0⟩, ⟨1, 3, 0⟩, ⟨2, 1, 0⟩, ⟨1, 4, 0⟩, ⟨1, 5, 0⟩, ⟨2, 1, 0⟩, ⟨5, 1, 5⟩, ⟨5, 2, 4⟩, ⟨4, 9, 10⟩, ⟨5, 2, 3⟩, ⟨5, 0, 5⟩, ⟨4, 12, 13⟩, ⟨5, 0, 4⟩, ⟨5, 1, 3⟩, ⟨4, 15, 16⟩, ⟨5, 11, 11⟩, ⟨5, 14, 14⟩, ⟨3, 18, 19⟩, ⟨5, 11, 6⟩, ⟨5, 14, 7⟩, ⟨3, 21, 22⟩, ⟨5, 17, 8⟩, ⟨3, 23, 24⟩, ⟨5, 20, 6⟩, ⟨2, 2, 0⟩, ⟨5, 27, 11⟩, ⟨5, 28, 25⟩, ⟨4, 26, 29⟩, ⟨5, 20, 7⟩, ⟨2, 2, 0⟩, ⟨5, 32, 14⟩, ⟨5, 33, 25⟩, ⟨4, 31, 34⟩, ⟨5, 20, 8⟩, ⟨5, 11, 11⟩, ⟨5, 14, 14⟩, ⟨3, 37, 38⟩, ⟨5, 11, 30⟩, ⟨5, 14, 35⟩, ⟨3, 40, 41⟩, ⟨5, 17, 36⟩, ⟨3, 42, 43⟩, ⟨5, 39, 30⟩, ⟨2, 2, 0⟩, ⟨5, 46, 11⟩, ⟨5, 47, 44⟩, ⟨4, 45, 48⟩, ⟨5, 39, 35⟩, ⟨2, 2, 0⟩, ⟨5, 51, 14⟩, ⟨5, 52, 44⟩, ⟨4, 50, 53⟩, ⟨5, 39, 36⟩, ⟨5, 2, 5⟩, ⟨5, 3, 2⟩, ⟨5, 0, 5⟩, ⟨4, 57, 58⟩, ⟨5, 4, 2⟩, ⟨5, 1, 5⟩, ⟨4, 60, 61⟩, ⟨5, 59, 59⟩, ⟨5, 62, 62⟩, ⟨3, 63, 64⟩, ⟨5, 56, 56⟩, ⟨5, 8, 8⟩, ⟨5, 67, 66⟩, ⟨2, 0, 0⟩, ⟨2, 2, 0⟩, ⟨5, 70, 6⟩, ⟨5, 71, 8⟩, ⟨5, 72, 66⟩, ⟨4, 69, 73⟩, ⟨2, 0, 0⟩, ⟨2, 2, 0⟩, ⟨5, 76, 7⟩, ⟨5, 77, 8⟩, ⟨5, 78, 66⟩, ⟨4, 75, 79⟩, ⟨5, 6, 6⟩, ⟨5, 7, 7⟩, ⟨3, 81, 82⟩, ⟨5, 83, 66⟩, ⟨5, 67, 65⟩, ⟨4, 84, 85⟩, ⟨5, 6, 56⟩, ⟨5, 8, 59⟩, ⟨3, 87, 88⟩, ⟨5, 7, 56⟩, ⟨5, 8, 62⟩, ⟨3, 90, 91⟩, ⟨5, 8, 56⟩, ⟨2, 0, 0⟩, ⟨4, 94, 74⟩, ⟨2, 0, 0⟩, ⟨4, 96, 80⟩, ⟨2, 2, 0⟩, ⟨5, 98, 68⟩, ⟨5, 7, 99⟩, ⟨5, 8, 97⟩, ⟨4, 100, 101⟩, ⟨5, 8, 95⟩, ⟨5, 6, 99⟩, ⟨4, 103, 104⟩, ⟨5, 6, 97⟩, ⟨5, 7, 95⟩, ⟨4, 106, 107⟩]
def tp1 : Prog := ⟨6, tins1, .any, [([0, 1, 2], .any), ([3, 4, 5], .any), ([6, 7, 8], .any), ([11, 14, 17], .any), ([30, 35, 36], .any), ([49, 54, 55], .any), ([68, 74, 80, 86, 89, 92, 93], .any), ([95, 97, 99], .any)], .any, [], .nil⟩
/-- The operations of the integers. -/
def opsZ : Ops := ⟨fun n => n, fun a b => a + b, fun a b => a - b, fun a b => a * b, fun _ _ => 0⟩
/-- No instruction is a root. -/
def noRoot : List Ins → Bool
  | [] => true
  | x :: xs => !decide (x.op = 6) && noRoot xs
structure Cong (M v w : Int) : Prop where
  lo : 0 ≤ v
  hi : v < M
  eq : v = w % M
def CongL (M : Int) (v w : List Int) : Prop := v.length = w.length ∧ ∀ i, i < v.length → Cong M (v.getD i 0) (w.getD i 0)
section
variable {M : Int} (hM : 0 < M) (hb : M ≤ 2147483647)
include hM hb
theorem cong_red {x : Int} (n : Int) (e : x % M = n % M) (hx1 : -9223372036854775808 ≤ x) (hx2 : x ≤ 9223372036854775807) : Cong M (redI M (W64 x)) n := by
  rw [w64_in _ hx1 hx2, redI_pos hM (by omega)]
  exact ⟨Int.emod_nonneg _ (by omega), Int.emod_lt_of_pos _ hM, e⟩
theorem cong_add {v w v' w' : Int} (h : Cong M v w) (h' : Cong M v' w') : Cong M (addI M v v') (w + w') := by
  have := h.lo; have := h.hi; have := h'.lo; have := h'.hi
  exact cong_red hM hb _ (by rw [h.eq, h'.eq]; exact (Int.add_emod w w' M).symm) (by omega) (by omega)
theorem cong_sub {v w v' w' : Int} (h : Cong M v w) (h' : Cong M v' w') : Cong M (subI M v v') (w - w') := by
  have := h.lo; have := h.hi; have := h'.lo; have := h'.hi
  exact cong_red hM hb _ (by rw [h.eq, h'.eq]; exact (Int.sub_emod w w' M).symm) (by omega) (by omega)
theorem cong_mul {v w v' w' : Int} (h : Cong M v w) (h' : Cong M v' w') : Cong M (mulI M v v') (w * w') := by
  have b1 := h.lo; have b2 := h.hi; have b3 := h'.lo; have b4 := h'.hi
  have p1 : 0 ≤ v * v' := Int.mul_nonneg b1 b3
  have p2 : v * v' ≤ 2147483647 * 2147483647 := Int.mul_le_mul (by omega) (by omega) b3 (by omega)
  exact cong_red hM hb _ (by rw [h.eq, h'.eq]; exact (Int.mul_emod w w' M).symm) (by omega) (by omega)
theorem cong_runR (b : Int) (x y : List Int) (hxy : CongL M x y) : ∀ (xs : List Ins) (i nr : Nat) (v w : List Int), okAll x.length xs i = true → noRoot xs = true → v.length = i → CongL M v w →
    CongL M (runR (opsM M b) x xs nr v) (runR opsZ y xs nr w)
  | [], _, _, _, _, _, _, _, h => h
  | t :: xs, i, nr, v, w, hok, hnr, hi, h => by
    simp only [okAll, Bool.and_eq_true] at hok
    simp only [noRoot, Bool.and_eq_true, Bool.not_eq_true', decide_eq_false_iff_not] at hnr
    simp only [runR]
    refine cong_runR b x y hxy xs (i + 1) _ _ _ hok.2 hnr.2 (by simp [hi]) ⟨by simp [h.1], fun k hk => ?_⟩
    simp only [List.length_append, List.length_cons, List.length_nil] at hk
    by_cases hkv : k < v.length
    · have := h.2 k hkv
      have hkw : k < w.length := h.1 ▸ hkv
      have e1 : (v ++ [valR (opsM M b) x v nr t]).getD k 0 = v.getD k 0 := by simp only [List.getD]; rw [List.getElem?_append_left hkv]
      have e2 : (w ++ [valR opsZ y w nr t]).getD k 0 = w.getD k 0 := by simp only [List.getD]; rw [List.getElem?_append_left hkw]
      rw [e1, e2]
      exact this
    · have hk' : k = v.length := by omega
      subst hk'
      have hw : v.length = w.length := h.1
      have e1 : (v ++ [valR (opsM M b) x v nr t]).getD v.length 0 = valR (opsM M b) x v nr t := by simp [List.getD]
      have e2 : (w ++ [valR opsZ y w nr t]).getD v.length 0 = valR opsZ y w nr t := by simp [List.getD, hw]
      rw [e1, e2]
      have hx := hok.1
      have hvr := fun (n : Int) (h0 : 0 ≤ n) (h1 : n < (i : Int)) => h.2 n.toNat (by omega)
      have hops := okIns_op hok.1
      unfold okIns at hx
      unfold valR
      split
      · rename_i h1
        simp only [h1, if_true, decide_eq_true_eq] at hx
        exact hxy.2 _ (by omega)
      split
      · rename_i h1 h2
        simp only [h2] at hx
        simp at hx
        have := cong_red hM hb (x := t.a) t.a rfl (by omega) (by omega)
        rw [w64_in _ (by omega) (by omega)] at this
        exact this
      rename_i h1 h2
      split
      · rename_i h3
        simp only [h3] at hx
        simp at hx
        exact cong_add hM hb (hvr _ hx.1.1 hx.1.2) (hvr _ hx.2.1 hx.2.2)
      split
      · rename_i h3
        simp only [h3] at hx
        simp at hx
        exact cong_sub hM hb (hvr _ hx.1.1 hx.1.2) (hvr _ hx.2.1 hx.2.2)
      split
      · rename_i h3
        simp only [h3] at hx
        simp at hx
        exact cong_mul hM hb (hvr _ hx.1.1 hx.1.2) (hvr _ hx.2.1 hx.2.2)
      · omega
end
/-- Every register is what its instruction says of the registers. -/
theorem runR_pre (R : Ops) (inp : List Int) : ∀ (xs : List Ins) (nr : Nat) (out : List Int) (k : Nat), k < out.length → (runR R inp xs nr out).getD k 0 = out.getD k 0
  | [], _, _, _, _ => rfl
  | x :: xs, nr, out, k, h => by
    simp only [runR]
    rw [runR_pre R inp xs _ _ k (by simp; omega)]
    simp only [List.getD]
    rw [List.getElem?_append_left h]
def zReg (inp V : List Int) (x : Ins) : Int :=
  if x.op = 1 then inp.getD x.a.toNat 0
  else if x.op = 2 then x.a
  else if x.op = 3 then V.getD x.a.toNat 0 + V.getD x.b.toNat 0
  else if x.op = 4 then V.getD x.a.toNat 0 - V.getD x.b.toNat 0
  else if x.op = 5 then V.getD x.a.toNat 0 * V.getD x.b.toNat 0
  else 0
theorem runZ_reg (inp : List Int) (inputs : Int) : ∀ (xs : List Ins) (i nr : Nat) (out : List Int), okAll inputs xs i = true → noRoot xs = true → out.length = i → ∀ (j : Nat) (x : Ins), xs[j]? = some x →
    (runR opsZ inp xs nr out).getD (i + j) 0 = zReg inp (runR opsZ inp xs nr out) x
  | [], _, _, _, _, _, _, _, _, h => by simp at h
  | t :: xs, i, nr, out, hok, hnr, hi, j, x, h => by
    simp only [okAll, Bool.and_eq_true] at hok
    simp only [noRoot, Bool.and_eq_true, Bool.not_eq_true', decide_eq_false_iff_not] at hnr
    simp only [runR]
    cases j with
    | zero =>
      simp only [List.getElem?_cons_zero, Option.some.injEq] at h
      subst h
      have hx := hok.1
      have pre := fun (n : Int) (h0 : 0 ≤ n) (h1 : n < (i : Int)) => (runR_pre opsZ inp xs (nextR t nr) (out ++ [valR opsZ inp out nr t]) n.toNat (by simp; omega)).trans (show (out ++ [valR opsZ inp out nr t]).getD n.toNat 0 = out.getD n.toNat 0 by simp only [List.getD]; rw [List.getElem?_append_left (by omega)])
      rw [Nat.add_zero, runR_pre opsZ inp xs _ _ i (by simp; omega)]
      have e1 : (out ++ [valR opsZ inp out nr t]).getD i 0 = valR opsZ inp out nr t := by subst hi; simp [List.getD]
      rw [e1]
      generalize runR opsZ inp xs (nextR t nr) (out ++ [valR opsZ inp out nr t]) = V at *
      have hops := okIns_op hok.1
      unfold okIns at hx
      unfold valR zReg
      split
      · rfl
      split
      · rfl
      rename_i h1 h2
      split
      · rename_i h3
        simp only [h3] at hx
        simp at hx
        rw [pre _ hx.1.1 hx.1.2, pre _ hx.2.1 hx.2.2]
        rfl
      split
      · rename_i h3
        simp only [h3] at hx
        simp at hx
        rw [pre _ hx.1.1 hx.1.2, pre _ hx.2.1 hx.2.2]
        rfl
      split
      · rename_i h3
        simp only [h3] at hx
        simp at hx
        rw [pre _ hx.1.1 hx.1.2, pre _ hx.2.1 hx.2.2]
        rfl
      · omega
    | succ j =>
      simp only [List.getElem?_cons_succ] at h
      have := runZ_reg inp inputs xs (i + 1) (nextR t nr) (out ++ [valR opsZ inp out nr t]) hok.2 hnr.2 (by simp [hi]) j x h
      rw [show i + (j + 1) = i + 1 + j by omega]
      exact this
end Go.AbZ
end
section
/- The registers of the law's relations vanish. -/
namespace Go.AbZ
open Go.Ab
set_option maxRecDepth 100000
set_option linter.unusedSimpArgs false
theorem ok_t0 : okAll 6 tins0 0 = true := by kernel_rfl
theorem nr_t0 : noRoot tins0 = true := by kernel_rfl
theorem zero_t0 (inp : List Int) : (runR opsZ inp tins0 0 []).getD 102 0 = 0 ∧ (runR opsZ inp tins0 0 []).getD 105 0 = 0 ∧ (runR opsZ inp tins0 0 []).getD 108 0 = 0 := by
  have h := runZ_reg inp 6 tins0 0 0 [] ok_t0 nr_t0 rfl
  generalize runR opsZ inp tins0 0 [] = V at *
  have e37 : V.getD 37 0 = V.getD 11 0 * V.getD 11 0 := h 37 ⟨5, 11, 11⟩ rfl
  have e38 : V.getD 38 0 = V.getD 14 0 * V.getD 14 0 := h 38 ⟨5, 14, 14⟩ rfl
  have e39 : V.getD 39 0 = V.getD 37 0 + V.getD 38 0 := h 39 ⟨3, 37, 38⟩ rfl
  have e18 : V.getD 18 0 = V.getD 11 0 * V.getD 11 0 := h 18 ⟨5, 11, 11⟩ rfl
  have e19 : V.getD 19 0 = V.getD 14 0 * V.getD 14 0 := h 19 ⟨5, 14, 14⟩ rfl
  have e20 : V.getD 20 0 = V.getD 18 0 + V.getD 19 0 := h 20 ⟨3, 18, 19⟩ rfl
  have e36 : V.getD 36 0 = V.getD 20 0 * V.getD 8 0 := h 36 ⟨5, 20, 8⟩ rfl
  have e55 : V.getD 55 0 = V.getD 39 0 * V.getD 36 0 := h 55 ⟨5, 39, 36⟩ rfl
  have e100 : V.getD 100 0 = V.getD 7 0 * V.getD 55 0 := h 100 ⟨5, 7, 55⟩ rfl
  have e31 : V.getD 31 0 = V.getD 20 0 * V.getD 7 0 := h 31 ⟨5, 20, 7⟩ rfl
  have e32 : V.getD 32 0 = 2 := h 32 ⟨2, 2, 0⟩ rfl
  have e33 : V.getD 33 0 = V.getD 32 0 * V.getD 14 0 := h 33 ⟨5, 32, 14⟩ rfl
  have e21 : V.getD 21 0 = V.getD 11 0 * V.getD 6 0 := h 21 ⟨5, 11, 6⟩ rfl
  have e22 : V.getD 22 0 = V.getD 14 0 * V.getD 7 0 := h 22 ⟨5, 14, 7⟩ rfl
  have e23 : V.getD 23 0 = V.getD 21 0 + V.getD 22 0 := h 23 ⟨3, 21, 22⟩ rfl
  have e24 : V.getD 24 0 = V.getD 17 0 * V.getD 8 0 := h 24 ⟨5, 17, 8⟩ rfl
  have e25 : V.getD 25 0 = V.getD 23 0 + V.getD 24 0 := h 25 ⟨3, 23, 24⟩ rfl
  have e34 : V.getD 34 0 = V.getD 33 0 * V.getD 25 0 := h 34 ⟨5, 33, 25⟩ rfl
  have e35 : V.getD 35 0 = V.getD 31 0 - V.getD 34 0 := h 35 ⟨4, 31, 34⟩ rfl
  have e50 : V.getD 50 0 = V.getD 39 0 * V.getD 35 0 := h 50 ⟨5, 39, 35⟩ rfl
  have e51 : V.getD 51 0 = 2 := h 51 ⟨2, 2, 0⟩ rfl
  have e52 : V.getD 52 0 = V.getD 51 0 * V.getD 14 0 := h 52 ⟨5, 51, 14⟩ rfl
  have e26 : V.getD 26 0 = V.getD 20 0 * V.getD 6 0 := h 26 ⟨5, 20, 6⟩ rfl
  have e27 : V.getD 27 0 = 2 := h 27 ⟨2, 2, 0⟩ rfl
  have e28 : V.getD 28 0 = V.getD 27 0 * V.getD 11 0 := h 28 ⟨5, 27, 11⟩ rfl
  have e29 : V.getD 29 0 = V.getD 28 0 * V.getD 25 0 := h 29 ⟨5, 28, 25⟩ rfl
  have e30 : V.getD 30 0 = V.getD 26 0 - V.getD 29 0 := h 30 ⟨4, 26, 29⟩ rfl
  have e40 : V.getD 40 0 = V.getD 11 0 * V.getD 30 0 := h 40 ⟨5, 11, 30⟩ rfl
  have e41 : V.getD 41 0 = V.getD 14 0 * V.getD 35 0 := h 41 ⟨5, 14, 35⟩ rfl
  have e42 : V.getD 42 0 = V.getD 40 0 + V.getD 41 0 := h 42 ⟨3, 40, 41⟩ rfl
  have e43 : V.getD 43 0 = V.getD 17 0 * V.getD 36 0 := h 43 ⟨5, 17, 36⟩ rfl
  have e44 : V.getD 44 0 = V.getD 42 0 + V.getD 43 0 := h 44 ⟨3, 42, 43⟩ rfl
  have e53 : V.getD 53 0 = V.getD 52 0 * V.getD 44 0 := h 53 ⟨5, 52, 44⟩ rfl
  have e54 : V.getD 54 0 = V.getD 50 0 - V.getD 53 0 := h 54 ⟨4, 50, 53⟩ rfl
  have e101 : V.getD 101 0 = V.getD 8 0 * V.getD 54 0 := h 101 ⟨5, 8, 54⟩ rfl
  have e102 : V.getD 102 0 = V.getD 100 0 - V.getD 101 0 := h 102 ⟨4, 100, 101⟩ rfl
  have e45 : V.getD 45 0 = V.getD 39 0 * V.getD 30 0 := h 45 ⟨5, 39, 30⟩ rfl
  have e46 : V.getD 46 0 = 2 := h 46 ⟨2, 2, 0⟩ rfl
  have e47 : V.getD 47 0 = V.getD 46 0 * V.getD 11 0 := h 47 ⟨5, 46, 11⟩ rfl
  have e48 : V.getD 48 0 = V.getD 47 0 * V.getD 44 0 := h 48 ⟨5, 47, 44⟩ rfl
  have e49 : V.getD 49 0 = V.getD 45 0 - V.getD 48 0 := h 49 ⟨4, 45, 48⟩ rfl
  have e103 : V.getD 103 0 = V.getD 8 0 * V.getD 49 0 := h 103 ⟨5, 8, 49⟩ rfl
  have e104 : V.getD 104 0 = V.getD 6 0 * V.getD 55 0 := h 104 ⟨5, 6, 55⟩ rfl
  have e105 : V.getD 105 0 = V.getD 103 0 - V.getD 104 0 := h 105 ⟨4, 103, 104⟩ rfl
  have e106 : V.getD 106 0 = V.getD 6 0 * V.getD 54 0 := h 106 ⟨5, 6, 54⟩ rfl
  have e107 : V.getD 107 0 = V.getD 7 0 * V.getD 49 0 := h 107 ⟨5, 7, 49⟩ rfl
  have e108 : V.getD 108 0 = V.getD 106 0 - V.getD 107 0 := h 108 ⟨4, 106, 107⟩ rfl
  clear h
  generalize V.getD 6 0 = x6 at *
  generalize V.getD 7 0 = x7 at *
  generalize V.getD 8 0 = x8 at *
  generalize V.getD 11 0 = x11 at *
  generalize V.getD 14 0 = x14 at *
  generalize V.getD 17 0 = x17 at *
  refine ⟨?_, ?_, ?_⟩
  · simp only [e108, e107, e106, e105, e104, e103, e49, e48, e47, e46, e45, e102, e101, e54, e53, e44, e43, e42, e41, e40, e30, e29, e28, e27, e26, e52, e51, e50, e35, e34, e25, e24, e23, e22, e21, e33, e32, e31, e100, e55, e36, e20, e19, e18, e39, e38, e37]
    grind
  · simp only [e108, e107, e106, e105, e104, e103, e49, e48, e47, e46, e45, e102, e101, e54, e53, e44, e43, e42, e41, e40, e30, e29, e28, e27, e26, e52, e51, e50, e35, e34, e25, e24, e23, e22, e21, e33, e32, e31, e100, e55, e36, e20, e19, e18, e39, e38, e37]
    grind
  · simp only [e108, e107, e106, e105, e104, e103, e49, e48, e47, e46, e45, e102, e101, e54, e53, e44, e43, e42, e41, e40, e30, e29, e28, e27, e26, e52, e51, e50, e35, e34, e25, e24, e23, e22, e21, e33, e32, e31, e100, e55, e36, e20, e19, e18, e39, e38, e37]
    grind
theorem ok_t1 : okAll 6 tins1 0 = true := by kernel_rfl
theorem nr_t1 : noRoot tins1 = true := by kernel_rfl
theorem zero_t1 (inp : List Int) : (runR opsZ inp tins1 0 []).getD 102 0 = 0 ∧ (runR opsZ inp tins1 0 []).getD 105 0 = 0 ∧ (runR opsZ inp tins1 0 []).getD 108 0 = 0 := by
  have h := runZ_reg inp 6 tins1 0 0 [] ok_t1 nr_t1 rfl
  generalize runR opsZ inp tins1 0 [] = V at *
  have e98 : V.getD 98 0 = 2 := h 98 ⟨2, 2, 0⟩ rfl
  have e67 : V.getD 67 0 = V.getD 8 0 * V.getD 8 0 := h 67 ⟨5, 8, 8⟩ rfl
  have e68 : V.getD 68 0 = V.getD 67 0 * V.getD 66 0 := h 68 ⟨5, 67, 66⟩ rfl
  have e99 : V.getD 99 0 = V.getD 98 0 * V.getD 68 0 := h 99 ⟨5, 98, 68⟩ rfl
  have e100 : V.getD 100 0 = V.getD 7 0 * V.getD 99 0 := h 100 ⟨5, 7, 99⟩ rfl
  have e96 : V.getD 96 0 = 0 := h 96 ⟨2, 0, 0⟩ rfl
  have e75 : V.getD 75 0 = 0 := h 75 ⟨2, 0, 0⟩ rfl
  have e76 : V.getD 76 0 = 2 := h 76 ⟨2, 2, 0⟩ rfl
  have e77 : V.getD 77 0 = V.getD 76 0 * V.getD 7 0 := h 77 ⟨5, 76, 7⟩ rfl
  have e78 : V.getD 78 0 = V.getD 77 0 * V.getD 8 0 := h 78 ⟨5, 77, 8⟩ rfl
  have e79 : V.getD 79 0 = V.getD 78 0 * V.getD 66 0 := h 79 ⟨5, 78, 66⟩ rfl
  have e80 : V.getD 80 0 = V.getD 75 0 - V.getD 79 0 := h 80 ⟨4, 75, 79⟩ rfl
  have e97 : V.getD 97 0 = V.getD 96 0 - V.getD 80 0 := h 97 ⟨4, 96, 80⟩ rfl
  have e101 : V.getD 101 0 = V.getD 8 0 * V.getD 97 0 := h 101 ⟨5, 8, 97⟩ rfl
  have e102 : V.getD 102 0 = V.getD 100 0 - V.getD 101 0 := h 102 ⟨4, 100, 101⟩ rfl
  have e94 : V.getD 94 0 = 0 := h 94 ⟨2, 0, 0⟩ rfl
  have e69 : V.getD 69 0 = 0 := h 69 ⟨2, 0, 0⟩ rfl
  have e70 : V.getD 70 0 = 2 := h 70 ⟨2, 2, 0⟩ rfl
  have e71 : V.getD 71 0 = V.getD 70 0 * V.getD 6 0 := h 71 ⟨5, 70, 6⟩ rfl
  have e72 : V.getD 72 0 = V.getD 71 0 * V.getD 8 0 := h 72 ⟨5, 71, 8⟩ rfl
  have e73 : V.getD 73 0 = V.getD 72 0 * V.getD 66 0 := h 73 ⟨5, 72, 66⟩ rfl
  have e74 : V.getD 74 0 = V.getD 69 0 - V.getD 73 0 := h 74 ⟨4, 69, 73⟩ rfl
  have e95 : V.getD 95 0 = V.getD 94 0 - V.getD 74 0 := h 95 ⟨4, 94, 74⟩ rfl
  have e103 : V.getD 103 0 = V.getD 8 0 * V.getD 95 0 := h 103 ⟨5, 8, 95⟩ rfl
  have e104 : V.getD 104 0 = V.getD 6 0 * V.getD 99 0 := h 104 ⟨5, 6, 99⟩ rfl
  have e105 : V.getD 105 0 = V.getD 103 0 - V.getD 104 0 := h 105 ⟨4, 103, 104⟩ rfl
  have e106 : V.getD 106 0 = V.getD 6 0 * V.getD 97 0 := h 106 ⟨5, 6, 97⟩ rfl
  have e107 : V.getD 107 0 = V.getD 7 0 * V.getD 95 0 := h 107 ⟨5, 7, 95⟩ rfl
  have e108 : V.getD 108 0 = V.getD 106 0 - V.getD 107 0 := h 108 ⟨4, 106, 107⟩ rfl
  clear h
  generalize V.getD 6 0 = x6 at *
  generalize V.getD 7 0 = x7 at *
  generalize V.getD 8 0 = x8 at *
  generalize V.getD 66 0 = x66 at *
  refine ⟨?_, ?_, ?_⟩
  · simp only [e108, e107, e106, e105, e104, e103, e95, e74, e73, e72, e71, e70, e69, e94, e102, e101, e97, e80, e79, e78, e77, e76, e75, e96, e100, e99, e68, e67, e98]
    grind
  · simp only [e108, e107, e106, e105, e104, e103, e95, e74, e73, e72, e71, e70, e69, e94, e102, e101, e97, e80, e79, e78, e77, e76, e75, e96, e100, e99, e68, e67, e98]
    grind
  · simp only [e108, e107, e106, e105, e104, e103, e95, e74, e73, e72, e71, e70, e69, e94, e102, e101, e97, e80, e79, e78, e77, e76, e75, e96, e100, e99, e68, e67, e98]
    grind
end Go.AbZ
end
section
namespace Go.AbZ
open Go.Ab
variable (G : Nat → AV) (X : Nat → List AV → St → Res)
set_option linter.unusedSimpArgs false
set_option linter.unusedVariables false
theorem f37_l2_ok (p : Int) (s S : St) (hS : Child s S) (h3 : 3 ≤ p) (hp : p ≤ 2147483647) : ∀ (n d : Nat), d + n = 46342 → 2 ≤ d → ∃ b, f37_l2 (PP T1 G X) (.int .i64 p) (.int .i64 (d : Int)) S = .ok (.bool b) s := by
  intro n
  induction n with
  | zero =>
    intro d hd h2
    have hd' : d = 46342 := by omega
    subst hd'
    refine ⟨true, ?_⟩
    have hw : IntKind.wrap .i64 (((46342 : Nat) : Int) * ((46342 : Nat) : Int)) = 2147580964 := by decide
    have hc : ¬ (2147580964 : Int) ≤ p := by omega
    rw [f37_l2_eq _ (PP_ok _ _ _)]
    simp -implicitDefEqProofs only [↓z_ret, ↓z_val, ↓z_pick, ↓z_cond, ↓z_boxRo_agg, ↓z_boxRo_int, ↓z_boxRo_bool, ↓z_boxRo_str, ↓z_boxRo_sl, ↓z_boxRo_fn, ↓z_boxRo_vptr, ↓z_boxRo_ref, ↓z_len_sl, ↓z_len_msl, ↓z_len_str, ↓z_load1, ↓z_fa, ↓z_fa_ref, ↓z_callF, ↓z_andK, ↓z_orK, ↓z_and1, ↓z_and2, ↓z_and3, ↓z_and4, ↓z_and5, ↓z_and6, ↓z_and7, ↓z_and8, ↓z_and9, ↓z_and10, ↓z_and11, ↓z_and12, ↓z_or1, ↓z_or2, ↓z_or3, ↓z_or4, ↓z_or5, ↓z_or6, ↓z_or7, ↓z_or8, ↓z_or9, ↓z_or10, ↓z_or11, ↓z_or12, ↓z_add, ↓z_sub, ↓z_mul, ↓z_eql, ↓z_neq, ↓z_lss, ↓z_leq, ↓z_gtr, ↓z_geq, ↓z_not, ↓z_neg, ↓z_fin_int, ↓z_fin_bool, ↓z_fin_str, ↓z_ent_int, ↓z_ent_bool, ↓z_ent_str, ↓z_stn, ↓z_ldnn, ↓z_ldn0, ↓z_ldn1, ↓z_ldn2, ↓z_ldn3, ↓z_ldn4, ↓z_ldn5, ↓z_ldn6, ↓z_ldn7, ↓z_ldn8, List.drop_zero, List.drop_succ_cons, List.cons_append, List.nil_append, decide_eq_true_eq, decide_eq_false_iff_not, ite_not, ↓reduceIte, pub_agg, pub_int, pub_bool, pub_str, pub_fn, pub_vptr, pub_nilp, Nat.zero_add, List.length_cons, List.length_nil, Nat.reduceAdd, List.all_cons, List.all_nil, isCell_int, isCell_bool, isCell_str, isCell_sl, Bool.and_self, ↓z_loadn, Nat.reduceLeDiff, Nat.le_refl, List.take_succ_cons, List.take_zero, hw, eq_false hc, decide_false, Bool.false_eq_true, f37_j5_eq _ (PP_ok _ _ _), z_finC_bool hS]
  | succ n ih =>
    intro d hd h2
    have hw : IntKind.wrap .i64 ((d : Int) * (d : Int)) = (d : Int) * (d : Int) := by
      have p2 : (d : Int) * d ≤ 46342 * 46342 := Int.mul_le_mul (by omega) (by omega) (by omega) (by omega)
      have p1 : (0 : Int) ≤ (d : Int) * d := Int.mul_nonneg (by omega) (by omega)
      exact wrap_in _ (by omega) (by omega)
    have hw1 : IntKind.wrap .i64 ((d : Int) + 1) = ((d + 1 : Nat) : Int) := wrap_succ d (by omega)
    have hd0 : (d : Int) ≠ 0 := by omega
    obtain ⟨b, hb⟩ := ih (d + 1) (by omega) (by omega)
    by_cases hc : (d : Int) * d ≤ p
    · by_cases hz : p.tmod d = 0
      · refine ⟨false, ?_⟩
        rw [f37_l2_eq _ (PP_ok _ _ _)]
        simp -implicitDefEqProofs only [↓z_ret, ↓z_val, ↓z_pick, ↓z_cond, ↓z_boxRo_agg, ↓z_boxRo_int, ↓z_boxRo_bool, ↓z_boxRo_str, ↓z_boxRo_sl, ↓z_boxRo_fn, ↓z_boxRo_vptr, ↓z_boxRo_ref, ↓z_len_sl, ↓z_len_msl, ↓z_len_str, ↓z_load1, ↓z_fa, ↓z_fa_ref, ↓z_callF, ↓z_andK, ↓z_orK, ↓z_and1, ↓z_and2, ↓z_and3, ↓z_and4, ↓z_and5, ↓z_and6, ↓z_and7, ↓z_and8, ↓z_and9, ↓z_and10, ↓z_and11, ↓z_and12, ↓z_or1, ↓z_or2, ↓z_or3, ↓z_or4, ↓z_or5, ↓z_or6, ↓z_or7, ↓z_or8, ↓z_or9, ↓z_or10, ↓z_or11, ↓z_or12, ↓z_add, ↓z_sub, ↓z_mul, ↓z_eql, ↓z_neq, ↓z_lss, ↓z_leq, ↓z_gtr, ↓z_geq, ↓z_not, ↓z_neg, ↓z_fin_int, ↓z_fin_bool, ↓z_fin_str, ↓z_ent_int, ↓z_ent_bool, ↓z_ent_str, ↓z_stn, ↓z_ldnn, ↓z_ldn0, ↓z_ldn1, ↓z_ldn2, ↓z_ldn3, ↓z_ldn4, ↓z_ldn5, ↓z_ldn6, ↓z_ldn7, ↓z_ldn8, List.drop_zero, List.drop_succ_cons, List.cons_append, List.nil_append, decide_eq_true_eq, decide_eq_false_iff_not, ite_not, ↓reduceIte, pub_agg, pub_int, pub_bool, pub_str, pub_fn, pub_vptr, pub_nilp, Nat.zero_add, List.length_cons, List.length_nil, Nat.reduceAdd, List.all_cons, List.all_nil, isCell_int, isCell_bool, isCell_str, isCell_sl, Bool.and_self, ↓z_loadn, Nat.reduceLeDiff, Nat.le_refl, List.take_succ_cons, List.take_zero, hw, eq_true hc, decide_true, f37_j3_eq _ (PP_ok _ _ _), ↓z_rem' G X _ _ _ hd0, eq_true hz, z_finC_bool hS]
      · refine ⟨b, ?_⟩
        rw [f37_l2_eq _ (PP_ok _ _ _)]
        simp -implicitDefEqProofs only [↓z_ret, ↓z_val, ↓z_pick, ↓z_cond, ↓z_boxRo_agg, ↓z_boxRo_int, ↓z_boxRo_bool, ↓z_boxRo_str, ↓z_boxRo_sl, ↓z_boxRo_fn, ↓z_boxRo_vptr, ↓z_boxRo_ref, ↓z_len_sl, ↓z_len_msl, ↓z_len_str, ↓z_load1, ↓z_fa, ↓z_fa_ref, ↓z_callF, ↓z_andK, ↓z_orK, ↓z_and1, ↓z_and2, ↓z_and3, ↓z_and4, ↓z_and5, ↓z_and6, ↓z_and7, ↓z_and8, ↓z_and9, ↓z_and10, ↓z_and11, ↓z_and12, ↓z_or1, ↓z_or2, ↓z_or3, ↓z_or4, ↓z_or5, ↓z_or6, ↓z_or7, ↓z_or8, ↓z_or9, ↓z_or10, ↓z_or11, ↓z_or12, ↓z_add, ↓z_sub, ↓z_mul, ↓z_eql, ↓z_neq, ↓z_lss, ↓z_leq, ↓z_gtr, ↓z_geq, ↓z_not, ↓z_neg, ↓z_fin_int, ↓z_fin_bool, ↓z_fin_str, ↓z_ent_int, ↓z_ent_bool, ↓z_ent_str, ↓z_stn, ↓z_ldnn, ↓z_ldn0, ↓z_ldn1, ↓z_ldn2, ↓z_ldn3, ↓z_ldn4, ↓z_ldn5, ↓z_ldn6, ↓z_ldn7, ↓z_ldn8, List.drop_zero, List.drop_succ_cons, List.cons_append, List.nil_append, decide_eq_true_eq, decide_eq_false_iff_not, ite_not, ↓reduceIte, pub_agg, pub_int, pub_bool, pub_str, pub_fn, pub_vptr, pub_nilp, Nat.zero_add, List.length_cons, List.length_nil, Nat.reduceAdd, List.all_cons, List.all_nil, isCell_int, isCell_bool, isCell_str, isCell_sl, Bool.and_self, ↓z_loadn, Nat.reduceLeDiff, Nat.le_refl, List.take_succ_cons, List.take_zero, hw, eq_true hc, decide_true, f37_j3_eq _ (PP_ok _ _ _), ↓z_rem' G X _ _ _ hd0, eq_false hz, decide_false, Bool.false_eq_true, f37_j4_eq _ (PP_ok _ _ _), hw1]
        exact hb
    · refine ⟨true, ?_⟩
      rw [f37_l2_eq _ (PP_ok _ _ _)]
      simp -implicitDefEqProofs only [↓z_ret, ↓z_val, ↓z_pick, ↓z_cond, ↓z_boxRo_agg, ↓z_boxRo_int, ↓z_boxRo_bool, ↓z_boxRo_str, ↓z_boxRo_sl, ↓z_boxRo_fn, ↓z_boxRo_vptr, ↓z_boxRo_ref, ↓z_len_sl, ↓z_len_msl, ↓z_len_str, ↓z_load1, ↓z_fa, ↓z_fa_ref, ↓z_callF, ↓z_andK, ↓z_orK, ↓z_and1, ↓z_and2, ↓z_and3, ↓z_and4, ↓z_and5, ↓z_and6, ↓z_and7, ↓z_and8, ↓z_and9, ↓z_and10, ↓z_and11, ↓z_and12, ↓z_or1, ↓z_or2, ↓z_or3, ↓z_or4, ↓z_or5, ↓z_or6, ↓z_or7, ↓z_or8, ↓z_or9, ↓z_or10, ↓z_or11, ↓z_or12, ↓z_add, ↓z_sub, ↓z_mul, ↓z_eql, ↓z_neq, ↓z_lss, ↓z_leq, ↓z_gtr, ↓z_geq, ↓z_not, ↓z_neg, ↓z_fin_int, ↓z_fin_bool, ↓z_fin_str, ↓z_ent_int, ↓z_ent_bool, ↓z_ent_str, ↓z_stn, ↓z_ldnn, ↓z_ldn0, ↓z_ldn1, ↓z_ldn2, ↓z_ldn3, ↓z_ldn4, ↓z_ldn5, ↓z_ldn6, ↓z_ldn7, ↓z_ldn8, List.drop_zero, List.drop_succ_cons, List.cons_append, List.nil_append, decide_eq_true_eq, decide_eq_false_iff_not, ite_not, ↓reduceIte, pub_agg, pub_int, pub_bool, pub_str, pub_fn, pub_vptr, pub_nilp, Nat.zero_add, List.length_cons, List.length_nil, Nat.reduceAdd, List.all_cons, List.all_nil, isCell_int, isCell_bool, isCell_str, isCell_sl, Bool.and_self, ↓z_loadn, Nat.reduceLeDiff, Nat.le_refl, List.take_succ_cons, List.take_zero, hw, eq_false hc, decide_false, Bool.false_eq_true, f37_j5_eq _ (PP_ok _ _ _), z_finC_bool hS]
/-- Prime answers, and a prime is neither too small nor too great. -/
theorem f37_ok (p : Int) (s : St) : ∃ b, callω T1 G X 37 [I p] s = .ok (.bool b) s ∧ (b = true → 3 ≤ p ∧ p ≤ 2147483647) := by
  by_cases h1 : p < 3
  · refine ⟨false, ?_, fun h => by cases h⟩
    rw [f37_call, f37_eq]
    simp -implicitDefEqProofs only [↓z_ret, ↓z_val, ↓z_pick, ↓z_cond, ↓z_boxRo_agg, ↓z_boxRo_int, ↓z_boxRo_bool, ↓z_boxRo_str, ↓z_boxRo_sl, ↓z_boxRo_fn, ↓z_boxRo_vptr, ↓z_boxRo_ref, ↓z_len_sl, ↓z_len_msl, ↓z_len_str, ↓z_load1, ↓z_fa, ↓z_fa_ref, ↓z_callF, ↓z_andK, ↓z_orK, ↓z_and1, ↓z_and2, ↓z_and3, ↓z_and4, ↓z_and5, ↓z_and6, ↓z_and7, ↓z_and8, ↓z_and9, ↓z_and10, ↓z_and11, ↓z_and12, ↓z_or1, ↓z_or2, ↓z_or3, ↓z_or4, ↓z_or5, ↓z_or6, ↓z_or7, ↓z_or8, ↓z_or9, ↓z_or10, ↓z_or11, ↓z_or12, ↓z_add, ↓z_sub, ↓z_mul, ↓z_eql, ↓z_neq, ↓z_lss, ↓z_leq, ↓z_gtr, ↓z_geq, ↓z_not, ↓z_neg, ↓z_fin_int, ↓z_fin_bool, ↓z_fin_str, ↓z_ent_int, ↓z_ent_bool, ↓z_ent_str, ↓z_stn, ↓z_ldnn, ↓z_ldn0, ↓z_ldn1, ↓z_ldn2, ↓z_ldn3, ↓z_ldn4, ↓z_ldn5, ↓z_ldn6, ↓z_ldn7, ↓z_ldn8, List.drop_zero, List.drop_succ_cons, List.cons_append, List.nil_append, decide_eq_true_eq, decide_eq_false_iff_not, ite_not, ↓reduceIte, pub_agg, pub_int, pub_bool, pub_str, pub_fn, pub_vptr, pub_nilp, Nat.zero_add, List.length_cons, List.length_nil, Nat.reduceAdd, List.all_cons, List.all_nil, isCell_int, isCell_bool, isCell_str, isCell_sl, Bool.and_self, ↓z_loadn, Nat.reduceLeDiff, Nat.le_refl, List.take_succ_cons, List.take_zero, eq_true h1, decide_true]
  · by_cases h2 : 2147483647 < p
    · refine ⟨false, ?_, fun h => by cases h⟩
      rw [f37_call, f37_eq]
      simp -implicitDefEqProofs only [↓z_ret, ↓z_val, ↓z_pick, ↓z_cond, ↓z_boxRo_agg, ↓z_boxRo_int, ↓z_boxRo_bool, ↓z_boxRo_str, ↓z_boxRo_sl, ↓z_boxRo_fn, ↓z_boxRo_vptr, ↓z_boxRo_ref, ↓z_len_sl, ↓z_len_msl, ↓z_len_str, ↓z_load1, ↓z_fa, ↓z_fa_ref, ↓z_callF, ↓z_andK, ↓z_orK, ↓z_and1, ↓z_and2, ↓z_and3, ↓z_and4, ↓z_and5, ↓z_and6, ↓z_and7, ↓z_and8, ↓z_and9, ↓z_and10, ↓z_and11, ↓z_and12, ↓z_or1, ↓z_or2, ↓z_or3, ↓z_or4, ↓z_or5, ↓z_or6, ↓z_or7, ↓z_or8, ↓z_or9, ↓z_or10, ↓z_or11, ↓z_or12, ↓z_add, ↓z_sub, ↓z_mul, ↓z_eql, ↓z_neq, ↓z_lss, ↓z_leq, ↓z_gtr, ↓z_geq, ↓z_not, ↓z_neg, ↓z_fin_int, ↓z_fin_bool, ↓z_fin_str, ↓z_ent_int, ↓z_ent_bool, ↓z_ent_str, ↓z_stn, ↓z_ldnn, ↓z_ldn0, ↓z_ldn1, ↓z_ldn2, ↓z_ldn3, ↓z_ldn4, ↓z_ldn5, ↓z_ldn6, ↓z_ldn7, ↓z_ldn8, List.drop_zero, List.drop_succ_cons, List.cons_append, List.nil_append, decide_eq_true_eq, decide_eq_false_iff_not, ite_not, ↓reduceIte, pub_agg, pub_int, pub_bool, pub_str, pub_fn, pub_vptr, pub_nilp, Nat.zero_add, List.length_cons, List.length_nil, Nat.reduceAdd, List.all_cons, List.all_nil, isCell_int, isCell_bool, isCell_str, isCell_sl, Bool.and_self, ↓z_loadn, Nat.reduceLeDiff, Nat.le_refl, List.take_succ_cons, List.take_zero, eq_false h1, eq_true h2, decide_true, decide_false, Bool.false_eq_true]
    · obtain ⟨b, hb⟩ := f37_l2_ok G X p s s.enter (.enter s) (by omega) (by omega) 46340 2 (by omega) (by omega)
      refine ⟨b, ?_, fun _ => by omega⟩
      rw [f37_call, f37_eq]
      simp -implicitDefEqProofs only [↓z_ret, ↓z_val, ↓z_pick, ↓z_cond, ↓z_boxRo_agg, ↓z_boxRo_int, ↓z_boxRo_bool, ↓z_boxRo_str, ↓z_boxRo_sl, ↓z_boxRo_fn, ↓z_boxRo_vptr, ↓z_boxRo_ref, ↓z_len_sl, ↓z_len_msl, ↓z_len_str, ↓z_load1, ↓z_fa, ↓z_fa_ref, ↓z_callF, ↓z_andK, ↓z_orK, ↓z_and1, ↓z_and2, ↓z_and3, ↓z_and4, ↓z_and5, ↓z_and6, ↓z_and7, ↓z_and8, ↓z_and9, ↓z_and10, ↓z_and11, ↓z_and12, ↓z_or1, ↓z_or2, ↓z_or3, ↓z_or4, ↓z_or5, ↓z_or6, ↓z_or7, ↓z_or8, ↓z_or9, ↓z_or10, ↓z_or11, ↓z_or12, ↓z_add, ↓z_sub, ↓z_mul, ↓z_eql, ↓z_neq, ↓z_lss, ↓z_leq, ↓z_gtr, ↓z_geq, ↓z_not, ↓z_neg, ↓z_fin_int, ↓z_fin_bool, ↓z_fin_str, ↓z_ent_int, ↓z_ent_bool, ↓z_ent_str, ↓z_stn, ↓z_ldnn, ↓z_ldn0, ↓z_ldn1, ↓z_ldn2, ↓z_ldn3, ↓z_ldn4, ↓z_ldn5, ↓z_ldn6, ↓z_ldn7, ↓z_ldn8, List.drop_zero, List.drop_succ_cons, List.cons_append, List.nil_append, decide_eq_true_eq, decide_eq_false_iff_not, ite_not, ↓reduceIte, pub_agg, pub_int, pub_bool, pub_str, pub_fn, pub_vptr, pub_nilp, Nat.zero_add, List.length_cons, List.length_nil, Nat.reduceAdd, List.all_cons, List.all_nil, isCell_int, isCell_bool, isCell_str, isCell_sl, Bool.and_self, ↓z_loadn, Nat.reduceLeDiff, Nat.le_refl, List.take_succ_cons, List.take_zero, eq_false h1, eq_false h2, decide_false, Bool.false_eq_true, f37_j1_eq _ (PP_ok _ _ _)]
      exact hb
end Go.AbZ
end
