/- SlpChecks: for every program value the law answers true, and its argument reads as it did. -/
import Derived.Test.YtnafklimohmfkaaDoorL4a
import Derived.Test.YtnafklimohmfkaaDoorTabOkD
import Derived.Test.YtnafklimohmfkaaDoorCards
import Derived.Test.YtnafklimohmfkaaDoorTie
import Derived.ProofKit
import Derived.OpenShut
import Derived.LaidMore
import Derived.Lay
import Derived.SevenTiedAt
import Derived.Stop.Joined
namespace Go.Proofs.YtnafklimohmfkaaDoor
open Go.ChangeShapes Go.WideShapes Go.ChangeAt Go.RowKit Go.Ab Go.AbD

theorem own : ownKnob Tryd.prog.godebug = none := by kernel_rfl
theorem f4_run {W : World} {xs : List Value} {H : Type} {d : DataW H} (hx : VRs (initKap W) 1 [argD shProg d] xs) (hf : FitD shProg d) : Calls Tryd.prog 4 xs.toArray W fun e w' => e = .returned (.bool true) ∧ Ab.Left W w' := by
  obtain ⟨p, e, h1, h2, h3, h4, h5, h6⟩ := inv_prog hf
  have hm : maxLen = 9223372036854775807 := by decide
  have hr := f4_ok G0 X0 p { own := [], up := [], ro := [] } (by omega) (fun v hv => by have := h6 v hv; omega) (prog_refless p h1 h2 h3) small_ok
  obtain ⟨n, hn⟩ := callω_inv T1 G0 X0 (fun h => by cases h) hr
  rw [e] at hx
  exact calls_init mixed tdOK tabD xOK hn (fun h => by have h' : some c4 = none := h; cases h') (g0OK _) hx

set_option maxRecDepth 100000 in
theorem slpChecks_lifted (os : Os) (started : os.Started) (H : Type) (enc : TypeId × Value → H) :
    ReturnsInHanded {} Tryd.checked os 4 .any (fun w args => (Rows.slpChecksSpec.pre enc Tryd.prog Tryd.f4 Rows.slpChecksRow.domain false w args ∧ laidMetH Tryd.prog Rows.slpChecksRow.laid w) ∧ sizedMet enc Tryd.prog Tryd.f4 (OpenSpec.ofChange Rows.slpChecksSpec) false w args)
      (Rows.slpChecksSpec.post enc Tryd.prog Tryd.f4 false true false false) := by
  refine returnsInHanded_of_change_and (C := Tryd.checked) (X := fun w _ => laidMetH Tryd.prog Rows.slpChecksRow.laid w) (fun _ _ _ hh h => h.of_heap hh) own started (by kernel_rfl) Tryd.func4
    (ChangeSpec.witness_shaped (enc := enc) (C := Tryd.checked) (os := os) (X := fun w _ => laidMetH Tryd.prog Rows.slpChecksRow.laid w) false (World.laidAll Tryd.prog os Rows.slpChecksRow.laid) #[.agg #[.int .i64 0, .slice none 0 0, .slice none 0 0, .slice none 0 0]] 8 (World.laidAll_os _ _ _)
      (World.shaped_of_ZipB (by kernel_rfl) (by kernel_rfl)) (by kernel_rfl) (by kernel_rfl) (by kernel_rfl)
      (by rw [MakeChecks.laidMetH_plain _ _ _ (by kernel_rfl)]; exact laidMet_laidAll _ (by kernel_rfl) (by kernel_rfl))) ?_
  intro W base args ds gs before hval0 hW hc _ hL _
  have hW' := hW
  obtain ⟨p, q, hA, _, _, _, _⟩ := hW
  obtain ⟨hx, hf⟩ := args_sound 1 [shProg] Tryd.f4.params.toList args.toList ds p (by kernel_rfl) (fun j t v ht hv => hval0 j t v (by simpa using ht) (by simpa using hv)) hA
  simp only [FitDs] at hf
  obtain ⟨d, ds', rfl, hfd, rfl⟩ := hf
  have run := f4_run (W := W) (xs := args.toList) (d := d) hx hfd
  have run' : Calls Tryd.prog 4 args W fun e w' => e = .returned (.bool true) ∧ Ab.Left W w' := run
  refine run'.mono fun e W' ⟨he, hL'⟩ => ?_
  subst he
  refine ⟨_, rfl, post_true (tb := 4) hW' rfl (fun l hl => ?_) (by kernel_rfl) (by kernel_rfl) (by kernel_rfl) ?_ hL'⟩
  · have hp : Tryd.f4.params.size = 1 := by kernel_rfl
    rw [hp] at hl
    match l, hl with
    | [x], _ => rfl
  · have hall : (Tryd.f4.params.toList.all fun t => Tryd.prog.readableRec t && decide (t < Tryd.prog.types.size)) = true := by kernel_rfl
    intro t ht
    have := List.all_eq_true.1 hall t ht
    simp only [Bool.and_eq_true, decide_eq_true_eq] at this
    exact this
theorem slpChecks_said : Rows.SlpChecksSaid :=
  OpenClaim.holds_of_wide 4 Tryd.f4 rfl rfl rfl rfl rfl rfl rfl ⟨rfl, rfl, rfl, rfl, rfl⟩ rfl rfl rfl rfl rfl (by kernel_rfl) Tryd.func4 (by kernel_rfl)
    (of_decide_eq_true (by kernel_rfl)) (by unfold Func.isWrapper; first | (rw [if_pos (by decide +kernel)]; kernel_rfl) | (rw [if_neg (by decide +kernel)]; exact ⟨rfl, rfl⟩))
    (fun os started H enc _ => slpChecks_lifted os started H enc)
theorem slpChecks_plain (f : FuncId) (fn : Func) (hf : Tryd.pinned.checked.prog.funcNamed "straightedge/straightedgelaw13.SlpChecks" = some f) (hfn : Tryd.pinned.checked.prog.funcs[f]? = some fn) :
    true = Tryd.pinned.checked.prog.looks [] ∧ ∀ (j : Nat) t, fn.params[j]? = some t → Tryd.pinned.checked.prog.wantsStandIn t = false := by
  obtain rfl : f = 4 := Option.some.inj ((show Tryd.prog.funcNamed "straightedge/straightedgelaw13.SlpChecks" = some 4 by kernel_rfl).symm.trans hf) |>.symm
  obtain rfl : fn = Tryd.f4 := (Option.some.inj (Tryd.func4.symm.trans hfn)).symm
  refine ⟨by kernel_rfl, fun j t ht => ?_⟩
  have hall : (Tryd.f4.params.toList.all fun u => !Tryd.prog.wantsStandIn u) = true := by kernel_rfl
  have := List.all_eq_true.1 hall t (by simpa using Array.mem_of_getElem? ht)
  simp only [Bool.not_eq_true'] at this
  exact this
theorem slpChecks_holds : Rows.SlpChecksCardSaid :=
  Claim7.holds_tied_plain_at .later [] _ _ _ _ slpChecks_said (fun _ h => by cases h) (by kernel_rfl) (fun _ h => by cases h) slpChecks_row_tie rfl ⟨rfl, rfl⟩ (by kernel_rfl) rfl slpChecks_plain (by kernel_rfl)
end Go.Proofs.YtnafklimohmfkaaDoor
