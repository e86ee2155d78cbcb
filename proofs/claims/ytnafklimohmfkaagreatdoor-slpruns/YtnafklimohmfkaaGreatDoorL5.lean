/- SlpRuns: for every program value, inputs and rule the law answers true, and its arguments read as they did. -/
import Derived.Test.YtnafklimohmfkaaGreatDoorZL
import Derived.Test.YtnafklimohmfkaaGreatDoorTabOkZ
import Derived.Test.YtnafklimohmfkaaGreatDoorCards
import Derived.Test.YtnafklimohmfkaaGreatDoorTie
import Derived.ProofKit
import Derived.OpenShut
import Derived.LaidMore
import Derived.Lay
import Derived.SevenTiedAt
import Derived.Stop.Joined
namespace Go.Proofs.YtnafklimohmfkaaGreatDoor
open Go.ChangeShapes Go.WideShapes Go.ChangeAt Go.RowKit Go.Ab Go.AbZ

theorem own : ownKnob Tryz.prog.godebug = none := by kernel_rfl
theorem inv_over {H : Type} {d : DataW H} (h : FitD (Sh.st [.int .i64, .int .i64]) d) : ∃ a b : Int, argD (Sh.st [.int .i64, .int .i64]) d = .agg [I a, I b] := by
  simp only [FitD, FitDs] at h
  obtain ⟨ds, rfl, d1, l1, rfl, ⟨n1, rfl, _⟩, d2, l2, rfl, ⟨n2, rfl, _⟩, rfl⟩ := h
  exact ⟨n1, n2, rfl⟩
theorem f5_run {W : World} {xs : List Value} {H : Type} {d1 d2 d3 : DataW H} (hx : VRs (initKap W) 1 [argD shProg d1, argD shInts d2, argD (Sh.st [.int .i64, .int .i64]) d3] xs) (hf1 : FitD shProg d1) (hf2 : FitD shInts d2) (hf3 : FitD (Sh.st [.int .i64, .int .i64]) d3) : Calls Tryz.prog 5 xs.toArray W fun e w' => e = .returned (.bool true) ∧ Ab.Left W w' := by
  obtain ⟨p, e, _, _, _, _, h5, h6⟩ := inv_prog hf1
  obtain ⟨inp, gi, e2, hgi, _⟩ := inv_ints hf2
  obtain ⟨A, B, e3⟩ := inv_over hf3
  have e2' : argD shInts d2 = sl1 inp gi := by
    show (encD shInts d2).headD .dead = _
    rw [e2]; rfl
  have hm : maxLen = 9223372036854775807 := by decide
  have hr := f5_ok G0 X0 p inp gi A B { own := [], up := [], ro := [] } (by omega) (fun v hv => by have := h6 v hv; omega) (fun d => by rcases hgi with rfl | rfl <;> rfl) ok10
  obtain ⟨n, hn⟩ := callω_inv T1 G0 X0 (fun h => by cases h) hr
  rw [e, e2', e3] at hx
  exact calls_init mixed tdOK tabOK xOK hn (fun h => by have h' : some c5 = none := h; cases h') (g0OK _) hx

set_option maxRecDepth 100000 in
theorem slpRuns_lifted (os : Os) (started : os.Started) (H : Type) (enc : TypeId × Value → H) :
    ReturnsInHanded {} Tryz.checked os 5 .any (fun w args => (Rows.slpRunsSpec.pre enc Tryz.prog Tryz.f5 Rows.slpRunsRow.domain false w args ∧ laidMetH Tryz.prog Rows.slpRunsRow.laid w) ∧ sizedMet enc Tryz.prog Tryz.f5 (OpenSpec.ofChange Rows.slpRunsSpec) false w args)
      (Rows.slpRunsSpec.post enc Tryz.prog Tryz.f5 false true false false) := by
  refine returnsInHanded_of_change_and (C := Tryz.checked) (X := fun w _ => laidMetH Tryz.prog Rows.slpRunsRow.laid w) (fun _ _ _ hh h => h.of_heap hh) own started (by kernel_rfl) Tryz.func5
    (ChangeSpec.witness_shaped (enc := enc) (C := Tryz.checked) (os := os) (X := fun w _ => laidMetH Tryz.prog Rows.slpRunsRow.laid w) false (World.laidAll Tryz.prog os Rows.slpRunsRow.laid) #[.agg #[.int .i64 0, .slice none 0 0, .slice none 0 0, .slice none 0 0], .slice none 0 0, .agg #[.int .i64 0, .int .i64 0]] 8 (World.laidAll_os _ _ _)
      (World.shaped_of_ZipB (by kernel_rfl) (by kernel_rfl)) (by kernel_rfl) (by kernel_rfl) (by kernel_rfl)
      (by rw [MakeChecks.laidMetH_plain _ _ _ (by kernel_rfl)]; exact laidMet_laidAll _ (by kernel_rfl) (by kernel_rfl))) ?_
  intro W base args ds gs before hval0 hW hc _ hL _
  have hW' := hW
  obtain ⟨p, q, hA, _, _, _, _⟩ := hW
  obtain ⟨hx, hf⟩ := args_sound 1 [shProg, shInts, Sh.st [.int .i64, .int .i64]] Tryz.f5.params.toList args.toList ds p (by kernel_rfl) (fun j t v ht hv => hval0 j t v (by simpa using ht) (by simpa using hv)) hA
  simp only [FitDs] at hf
  obtain ⟨d1, ds1, rfl, hf1, d2, ds2, rfl, hf2, d3, ds3, rfl, hf3, rfl⟩ := hf
  have run := f5_run (W := W) (xs := args.toList) (d1 := d1) (d2 := d2) (d3 := d3) hx (by simpa only [FitD] using hf1) (by simpa only [FitD] using hf2) (by simpa only [FitD, FitDs] using hf3)
  have run' : Calls Tryz.prog 5 args W fun e w' => e = .returned (.bool true) ∧ Ab.Left W w' := run
  refine run'.mono fun e W' ⟨he, hL'⟩ => ?_
  subst he
  refine ⟨_, rfl, post_true (tb := 4) hW' rfl (fun l hl => ?_) (by kernel_rfl) (by kernel_rfl) (by kernel_rfl) ?_ hL'⟩
  · have hp : Tryz.f5.params.size = 3 := by kernel_rfl
    rw [hp] at hl
    match l, hl with
    | [x, y, z], _ => rfl
  · have hall : (Tryz.f5.params.toList.all fun t => Tryz.prog.readableRec t && decide (t < Tryz.prog.types.size)) = true := by kernel_rfl
    intro t ht
    have := List.all_eq_true.1 hall t ht
    simp only [Bool.and_eq_true, decide_eq_true_eq] at this
    exact this
theorem slpRuns_said : Rows.SlpRunsSaid :=
  OpenClaim.holds_of_wide 5 Tryz.f5 rfl rfl rfl rfl rfl rfl rfl ⟨rfl, rfl, rfl, rfl, rfl⟩ rfl rfl rfl rfl rfl (by kernel_rfl) Tryz.func5 (by kernel_rfl)
    (of_decide_eq_true (by kernel_rfl)) (by unfold Func.isWrapper; first | (rw [if_pos (by decide +kernel)]; kernel_rfl) | (rw [if_neg (by decide +kernel)]; exact ⟨rfl, rfl⟩))
    (fun os started H enc _ => slpRuns_lifted os started H enc)
theorem slpRuns_plain (f : FuncId) (fn : Func) (hf : Tryz.pinned.checked.prog.funcNamed "straightedge/straightedgelaw13.SlpRuns" = some f) (hfn : Tryz.pinned.checked.prog.funcs[f]? = some fn) :
    true = Tryz.pinned.checked.prog.looks [] ∧ ∀ (j : Nat) t, fn.params[j]? = some t → Tryz.pinned.checked.prog.wantsStandIn t = false := by
  obtain rfl : f = 5 := Option.some.inj ((show Tryz.prog.funcNamed "straightedge/straightedgelaw13.SlpRuns" = some 5 by kernel_rfl).symm.trans hf) |>.symm
  obtain rfl : fn = Tryz.f5 := (Option.some.inj (Tryz.func5.symm.trans hfn)).symm
  refine ⟨by kernel_rfl, fun j t ht => ?_⟩
  have hall : (Tryz.f5.params.toList.all fun u => !Tryz.prog.wantsStandIn u) = true := by kernel_rfl
  have := List.all_eq_true.1 hall t (by simpa using Array.mem_of_getElem? ht)
  simp only [Bool.not_eq_true'] at this
  exact this
theorem slpRuns_holds : Rows.SlpRunsCardSaid :=
  Claim7.holds_tied_plain_at .later [] _ _ _ _ slpRuns_said (fun _ h => by cases h) (by kernel_rfl) (fun _ h => by cases h) slpRuns_row_tie rfl ⟨rfl, rfl⟩ (by kernel_rfl) rfl slpRuns_plain (by kernel_rfl)
end Go.Proofs.YtnafklimohmfkaaGreatDoor
