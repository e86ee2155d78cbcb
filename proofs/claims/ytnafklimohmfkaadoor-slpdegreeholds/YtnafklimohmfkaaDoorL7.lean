/- SlpDegreeHolds: for every program value and every line of inputs the law answers true, and its arguments read as they did. -/
import Derived.Test.YtnafklimohmfkaaDoorL4aY
import Derived.Test.YtnafklimohmfkaaDoorTabOkY
import Derived.Test.YtnafklimohmfkaaDoorCards
import Derived.Test.YtnafklimohmfkaaDoorTie
import Derived.ProofKit
import Derived.OpenShut
import Derived.LaidMore
import Derived.Lay
import Derived.SevenTiedAt
import Derived.Stop.Joined
namespace Go.Proofs.YtnafklimohmfkaaDoor
open Go.ChangeShapes Go.WideShapes Go.ChangeAt Go.RowKit Go.Ab Go.AbY

theorem own : ownKnob Tryd.prog.godebug = none := by kernel_rfl
theorem f5_run {W : World} {xs : List Value} {H : Type} {d1 d2 d3 : DataW H} (hx : VRs (initKap W) 1 [argD shProg d1, argD shInts d2, argD shInts d3] xs) (hf1 : FitD shProg d1) (hf2 : FitD shInts d2) (hf3 : FitD shInts d3) : Calls Tryd.prog 5 xs.toArray W fun e w' => e = .returned (.bool true) ∧ Ab.Left W w' := by
  obtain ⟨p, e, h1, h2, h3, h4, h5, h6⟩ := inv_prog hf1
  obtain ⟨fr, gf, e2, _, _⟩ := inv_ints hf2
  obtain ⟨by', gb, e3, _, _⟩ := inv_ints hf3
  have e2' : argD shInts d2 = sl1 fr gf := by
    show (encD shInts d2).headD .dead = _
    rw [e2]; rfl
  have e3' : argD shInts d3 = sl1 by' gb := by
    show (encD shInts d3).headD .dead = _
    rw [e3]; rfl
  have hm : maxLen = 9223372036854775807 := by decide
  have hr := f5_ok G0 X0 p fr by' gf gb { own := [], up := [], ro := [] } (by omega) (fun v hv => by have := h6 v hv; omega) (prog_refless p h1 h2 h3) ok6
  obtain ⟨n, hn⟩ := callω_inv T1 G0 X0 (fun h => by cases h) hr
  rw [e, e2', e3'] at hx
  exact calls_init mixed tdOK tabOK xOK hn (fun h => by have h' : some c5 = none := h; cases h') (g0OK _) hx

set_option maxRecDepth 100000 in
theorem slpDegreeHolds_lifted (os : Os) (started : os.Started) (H : Type) (enc : TypeId × Value → H) :
    ReturnsInHanded {} Tryd.checked os 5 .any (fun w args => (Rows.slpDegreeHoldsSpec.pre enc Tryd.prog Tryd.f5 Rows.slpDegreeHoldsRow.domain false w args ∧ laidMetH Tryd.prog Rows.slpDegreeHoldsRow.laid w) ∧ sizedMet enc Tryd.prog Tryd.f5 (OpenSpec.ofChange Rows.slpDegreeHoldsSpec) false w args)
      (Rows.slpDegreeHoldsSpec.post enc Tryd.prog Tryd.f5 false true false false) := by
  refine returnsInHanded_of_change_and (C := Tryd.checked) (X := fun w _ => laidMetH Tryd.prog Rows.slpDegreeHoldsRow.laid w) (fun _ _ _ hh h => h.of_heap hh) own started (by kernel_rfl) Tryd.func5
    (ChangeSpec.witness_shaped (enc := enc) (C := Tryd.checked) (os := os) (X := fun w _ => laidMetH Tryd.prog Rows.slpDegreeHoldsRow.laid w) false (World.laidAll Tryd.prog os Rows.slpDegreeHoldsRow.laid) #[.agg #[.int .i64 0, .slice none 0 0, .slice none 0 0, .slice none 0 0], .slice none 0 0, .slice none 0 0] 8 (World.laidAll_os _ _ _)
      (World.shaped_of_ZipB (by kernel_rfl) (by kernel_rfl)) (by kernel_rfl) (by kernel_rfl) (by kernel_rfl)
      (by rw [MakeChecks.laidMetH_plain _ _ _ (by kernel_rfl)]; exact laidMet_laidAll _ (by kernel_rfl) (by kernel_rfl))) ?_
  intro W base args ds gs before hval0 hW hc _ hL _
  have hW' := hW
  obtain ⟨p, q, hA, _, _, _, _⟩ := hW
  obtain ⟨hx, hf⟩ := args_sound 1 [shProg, shInts, shInts] Tryd.f5.params.toList args.toList ds p (by kernel_rfl) (fun j t v ht hv => hval0 j t v (by simpa using ht) (by simpa using hv)) hA
  simp only [FitDs] at hf
  obtain ⟨d1, ds1, rfl, hf1, d2, ds2, rfl, hf2, d3, ds3, rfl, hf3, rfl⟩ := hf
  have run := f5_run (W := W) (xs := args.toList) (d1 := d1) (d2 := d2) (d3 := d3) hx (by simpa only [FitD] using hf1) (by simpa only [FitD] using hf2) (by simpa only [FitD] using hf3)
  have run' : Calls Tryd.prog 5 args W fun e w' => e = .returned (.bool true) ∧ Ab.Left W w' := run
  refine run'.mono fun e W' ⟨he, hL'⟩ => ?_
  subst he
  refine ⟨_, rfl, post_true (tb := 4) hW' rfl (fun l hl => ?_) (by kernel_rfl) (by kernel_rfl) (by kernel_rfl) ?_ hL'⟩
  · have hp : Tryd.f5.params.size = 3 := by kernel_rfl
    rw [hp] at hl
    match l, hl with
    | [x, y, z], _ => rfl
  · have hall : (Tryd.f5.params.toList.all fun t => Tryd.prog.readableRec t && decide (t < Tryd.prog.types.size)) = true := by kernel_rfl
    intro t ht
    have := List.all_eq_true.1 hall t ht
    simp only [Bool.and_eq_true, decide_eq_true_eq] at this
    exact this
theorem slpDegreeHolds_said : Rows.SlpDegreeHoldsSaid :=
  OpenClaim.holds_of_wide 5 Tryd.f5 rfl rfl rfl rfl rfl rfl rfl ⟨rfl, rfl, rfl, rfl, rfl⟩ rfl rfl rfl rfl rfl (by kernel_rfl) Tryd.func5 (by kernel_rfl)
    (of_decide_eq_true (by kernel_rfl)) (by unfold Func.isWrapper; first | (rw [if_pos (by decide +kernel)]; kernel_rfl) | (rw [if_neg (by decide +kernel)]; exact ⟨rfl, rfl⟩))
    (fun os started H enc _ => slpDegreeHolds_lifted os started H enc)
theorem slpDegreeHolds_plain (f : FuncId) (fn : Func) (hf : Tryd.pinned.checked.prog.funcNamed "straightedge/straightedgelaw13.SlpDegreeHolds" = some f) (hfn : Tryd.pinned.checked.prog.funcs[f]? = some fn) :
    true = Tryd.pinned.checked.prog.looks [] ∧ ∀ (j : Nat) t, fn.params[j]? = some t → Tryd.pinned.checked.prog.wantsStandIn t = false := by
  obtain rfl : f = 5 := Option.some.inj ((show Tryd.prog.funcNamed "straightedge/straightedgelaw13.SlpDegreeHolds" = some 5 by kernel_rfl).symm.trans hf) |>.symm
  obtain rfl : fn = Tryd.f5 := (Option.some.inj (Tryd.func5.symm.trans hfn)).symm
  refine ⟨by kernel_rfl, fun j t ht => ?_⟩
  have hall : (Tryd.f5.params.toList.all fun u => !Tryd.prog.wantsStandIn u) = true := by kernel_rfl
  have := List.all_eq_true.1 hall t (by simpa using Array.mem_of_getElem? ht)
  simp only [Bool.not_eq_true'] at this
  exact this
theorem slpDegreeHolds_holds : Rows.SlpDegreeHoldsCardSaid :=
  Claim7.holds_tied_plain_at .later [] _ _ _ _ slpDegreeHolds_said (fun _ h => by cases h) (by kernel_rfl) (fun _ h => by cases h) slpDegreeHolds_row_tie rfl ⟨rfl, rfl⟩ (by kernel_rfl) rfl slpDegreeHolds_plain (by kernel_rfl)
end Go.Proofs.YtnafklimohmfkaaDoor
