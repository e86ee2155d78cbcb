/- SlpReduces: for every program value, inputs and moduli the law answers true, and its arguments read as they did. -/
import Derived.Test.YtnafklimohmfkaaDoorL4a
import Derived.Test.YtnafklimohmfkaaDoorS4
import Derived.Test.YtnafklimohmfkaaDoorTabOkD
import Derived.Test.YtnafklimohmfkaaDoorCards
import Derived.Test.YtnafklimohmfkaaDoorTie
import Derived.ProofKit
import Derived.OpenShut
import Derived.LaidMore
import Derived.Lay
import Derived.SevenTiedAt
import Derived.Stop.Joined
namespace Go.Proofs.YtnafklimohmfkaaDoor
open Go.ChangeShapes Go.WideShapes Go.ChangeAt Go.RowKit Go.Ab Go.AbD

theorem own : ownKnob Tryd.prog.godebug = none := by kernel_rfl
theorem inv_mod {H : Type} {d : DataW H} (h : FitD (Sh.st [.int .i64, .int .i64, .int .i64]) d) : ∃ a b c : Int, argD (Sh.st [.int .i64, .int .i64, .int .i64]) d = .agg [I a, I b, I c] := by
  simp only [FitD, FitDs] at h
  obtain ⟨ds, rfl, d1, l1, rfl, ⟨n1, rfl, _⟩, d2, l2, rfl, ⟨n2, rfl, _⟩, d3, l3, rfl, ⟨n3, rfl, _⟩, rfl⟩ := h
  exact ⟨n1, n2, n3, rfl⟩
theorem f3_run {W : World} {xs : List Value} {H : Type} {d1 d2 d3 : DataW H} (hx : VRs (initKap W) 1 [argD shProg d1, argD shInts d2, argD (Sh.st [.int .i64, .int .i64, .int .i64]) d3] xs) (hf1 : FitD shProg d1) (hf2 : FitD shInts d2) (hf3 : FitD (Sh.st [.int .i64, .int .i64, .int .i64]) d3) : Calls Tryd.prog 3 xs.toArray W fun e w' => e = .returned (.bool true) ∧ Ab.Left W w' := by
  obtain ⟨p, e, h1, h2, h3, h4, h5, h6⟩ := inv_prog hf1
  obtain ⟨inp, gi, e2, _, _⟩ := inv_ints hf2
  obtain ⟨A, B, C, e3⟩ := inv_mod hf3
  have e2' : argD shInts d2 = sl1 inp gi := by
    show (encD shInts d2).headD .dead = _
    rw [e2]; rfl
  have hm : maxLen = 9223372036854775807 := by decide
  have hr := f3_ok G0 X0 p inp gi A B C { own := [], up := [], ro := [] } (by omega) (fun v hv => by have := h6 v hv; omega) (prog_refless p h1 h2 h3) small_ok
  obtain ⟨n, hn⟩ := callω_inv T1 G0 X0 (fun h => by cases h) hr
  rw [e, e2', e3] at hx
  exact calls_init mixed tdOK tabD xOK hn (fun h => by have h' : some c3 = none := h; cases h') (g0OK _) hx

set_option maxRecDepth 100000 in
theorem slpReduces_lifted (os : Os) (started : os.Started) (H : Type) (enc : TypeId × Value → H) :
    ReturnsInHanded {} Tryd.checked os 3 .any (fun w args => (Rows.slpReducesSpec.pre enc Tryd.prog Tryd.f3 Rows.slpReducesRow.domain false w args ∧ laidMetH Tryd.prog Rows.slpReducesRow.laid w) ∧ sizedMet enc Tryd.prog Tryd.f3 (OpenSpec.ofChange Rows.slpReducesSpec) false w args)
      (Rows.slpReducesSpec.post enc Tryd.prog Tryd.f3 false true false false) := by
  refine returnsInHanded_of_change_and (C := Tryd.checked) (X := fun w _ => laidMetH Tryd.prog Rows.slpReducesRow.laid w) (fun _ _ _ hh h => h.of_heap hh) own started (by kernel_rfl) Tryd.func3
    (ChangeSpec.witness_shaped (enc := enc) (C := Tryd.checked) (os := os) (X := fun w _ => laidMetH Tryd.prog Rows.slpReducesRow.laid w) false (World.laidAll Tryd.prog os Rows.slpReducesRow.laid) #[.agg #[.int .i64 0, .slice none 0 0, .slice none 0 0, .slice none 0 0], .slice none 0 0, .agg #[.int .i64 0, .int .i64 0, .int .i64 0]] 8 (World.laidAll_os _ _ _)
      (World.shaped_of_ZipB (by kernel_rfl) (by kernel_rfl)) (by kernel_rfl) (by kernel_rfl) (by kernel_rfl)
      (by rw [MakeChecks.laidMetH_plain _ _ _ (by kernel_rfl)]; exact laidMet_laidAll _ (by kernel_rfl) (by kernel_rfl))) ?_
  intro W base args ds gs before hval0 hW hc _ hL _
  have hW' := hW
  obtain ⟨p, q, hA, _, _, _, _⟩ := hW
  obtain ⟨hx, hf⟩ := args_sound 1 [shProg, shInts, Sh.st [.int .i64, .int .i64, .int .i64]] Tryd.f3.params.toList args.toList ds p (by kernel_rfl) (fun j t v ht hv => hval0 j t v (by simpa using ht) (by simpa using hv)) hA
  simp only [FitDs] at hf
  obtain ⟨d1, ds1, rfl, hf1, d2, ds2, rfl, hf2, d3, ds3, rfl, hf3, rfl⟩ := hf
  have run := f3_run (W := W) (xs := args.toList) (d1 := d1) (d2 := d2) (d3 := d3) hx (by simpa only [FitD] using hf1) (by simpa only [FitD] using hf2) (by simpa only [FitD, FitDs] using hf3)
  have run' : Calls Tryd.prog 3 args W fun e w' => e = .returned (.bool true) ∧ Ab.Left W w' := run
  refine run'.mono fun e W' ⟨he, hL'⟩ => ?_
  subst he
  refine ⟨_, rfl, post_true (tb := 4) hW' rfl (fun l hl => ?_) (by kernel_rfl) (by kernel_rfl) (by kernel_rfl) ?_ hL'⟩
  · have hp : Tryd.f3.params.size = 3 := by kernel_rfl
    rw [hp] at hl
    match l, hl with
    | [x, y, z], _ => rfl
  · have hall : (Tryd.f3.params.toList.all fun t => Tryd.prog.readableRec t && decide (t < Tryd.prog.types.size)) = true := by kernel_rfl
    intro t ht
    have := List.all_eq_true.1 hall t ht
    simp only [Bool.and_eq_true, decide_eq_true_eq] at this
    exact this
theorem slpReduces_said : Rows.SlpReducesSaid :=
  OpenClaim.holds_of_wide 3 Tryd.f3 rfl rfl rfl rfl rfl rfl rfl ⟨rfl, rfl, rfl, rfl, rfl⟩ rfl rfl rfl rfl rfl (by kernel_rfl) Tryd.func3 (by kernel_rfl)
    (of_decide_eq_true (by kernel_rfl)) (by unfold Func.isWrapper; first | (rw [if_pos (by decide +kernel)]; kernel_rfl) | (rw [if_neg (by decide +kernel)]; exact ⟨rfl, rfl⟩))
    (fun os started H enc _ => slpReduces_lifted os started H enc)
theorem slpReduces_plain (f : FuncId) (fn : Func) (hf : Tryd.pinned.checked.prog.funcNamed "straightedge/straightedgelaw13.SlpReduces" = some f) (hfn : Tryd.pinned.checked.prog.funcs[f]? = some fn) :
    true = Tryd.pinned.checked.prog.looks [] ∧ ∀ (j : Nat) t, fn.params[j]? = some t → Tryd.pinned.checked.prog.wantsStandIn t = false := by
  obtain rfl : f = 3 := Option.some.inj ((show Tryd.prog.funcNamed "straightedge/straightedgelaw13.SlpReduces" = some 3 by kernel_rfl).symm.trans hf) |>.symm
  obtain rfl : fn = Tryd.f3 := (Option.some.inj (Tryd.func3.symm.trans hfn)).symm
  refine ⟨by kernel_rfl, fun j t ht => ?_⟩
  have hall : (Tryd.f3.params.toList.all fun u => !Tryd.prog.wantsStandIn u) = true := by kernel_rfl
  have := List.all_eq_true.1 hall t (by simpa using Array.mem_of_getElem? ht)
  simp only [Bool.not_eq_true'] at this
  exact this
theorem slpReduces_holds : Rows.SlpReducesCardSaid :=
  Claim7.holds_tied_plain_at .later [] _ _ _ _ slpReduces_said (fun _ h => by cases h) (by kernel_rfl) (fun _ h => by cases h) slpReduces_row_tie rfl ⟨rfl, rfl⟩ (by kernel_rfl) rfl slpReduces_plain (by kernel_rfl)
end Go.Proofs.YtnafklimohmfkaaDoor
