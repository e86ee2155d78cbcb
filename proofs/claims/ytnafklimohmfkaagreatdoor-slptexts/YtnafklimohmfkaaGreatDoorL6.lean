/- SlpTexts: for every program value the law answers true, and its argument reads as it did. -/
import Derived.Test.YtnafklimohmfkaaGreatDoorXL
import Derived.Test.YtnafklimohmfkaaGreatDoorTabOkX
import Derived.Test.YtnafklimohmfkaaGreatDoorCards
import Derived.Test.YtnafklimohmfkaaGreatDoorTie
import Derived.ProofKit
import Derived.OpenShut
import Derived.LaidMore
import Derived.Lay
import Derived.SevenTiedAt
import Derived.Stop.Joined
namespace Go.Proofs.YtnafklimohmfkaaGreatDoor
open Go.ChangeShapes Go.WideShapes Go.ChangeAt Go.RowKit Go.Ab Go.AbX

theorem own : ownKnob Tryz.prog.godebug = none := by kernel_rfl
theorem f6_run {W : World} {xs : List Value} {H : Type} {d1 : DataW H} (hL : laidMetH Tryz.prog Rows.slpTextsRow.laid W) (hx : VRs (initKap W) 1 [argD shProg d1] xs) (hf1 : FitD shProg d1) : Calls Tryz.prog 6 xs.toArray W fun e w' => e = .returned (.bool true) ∧ Ab.Left W w' := by
  obtain ⟨p, e, _, _, _, _, h5, h6⟩ := inv_prog hf1
  have hm : maxLen = 9223372036854775807 := by decide
  have hr := Go.AbX.f6_ok GX X0 rfl p { own := [], up := [], ro := [] } (by omega) (fun v hv => by have := h6 v hv; omega) ok10
  obtain ⟨n, hn⟩ := callω_inv T1 GX X0 (fun h => by cases h) hr
  rw [e] at hx
  rw [MakeChecks.laidMetH_plain _ _ _ (by kernel_rfl)] at hL
  have hg := gxOK (d := Rows.laid_internal_strconv_uint64pow10) hL (by simp [Rows.slpTextsRow]) (by kernel_rfl)
  exact calls_init mixed tdOK tabOK xOK hn (fun h => by have h' : some c6 = none := h; cases h') hg hx

set_option maxRecDepth 100000 in
theorem slpTexts_lifted (os : Os) (started : os.Started) (H : Type) (enc : TypeId × Value → H) :
    ReturnsInHanded {} Tryz.checked os 6 .any (fun w args => (Rows.slpTextsSpec.pre enc Tryz.prog Tryz.f6 Rows.slpTextsRow.domain false w args ∧ laidMetH Tryz.prog Rows.slpTextsRow.laid w) ∧ sizedMet enc Tryz.prog Tryz.f6 (OpenSpec.ofChange Rows.slpTextsSpec) false w args)
      (Rows.slpTextsSpec.post enc Tryz.prog Tryz.f6 false true false false) := by
  refine returnsInHanded_of_change_and (C := Tryz.checked) (X := fun w _ => laidMetH Tryz.prog Rows.slpTextsRow.laid w) (fun _ _ _ hh h => h.of_heap hh) own started (by kernel_rfl) Tryz.func6
    (ChangeSpec.witness_shaped (enc := enc) (C := Tryz.checked) (os := os) (X := fun w _ => laidMetH Tryz.prog Rows.slpTextsRow.laid w) false (World.laidAll Tryz.prog os Rows.slpTextsRow.laid) #[.agg #[.int .i64 0, .slice none 0 0, .slice none 0 0, .slice none 0 0]] 8 (World.laidAll_os _ _ _)
      (World.shaped_of_ZipB (by kernel_rfl) (by kernel_rfl)) (by kernel_rfl) (by kernel_rfl) (by kernel_rfl)
      (by rw [MakeChecks.laidMetH_plain _ _ _ (by kernel_rfl)]; exact laidMet_laidAll _ (by kernel_rfl) (by kernel_rfl))) ?_
  intro W base args ds gs before hval0 hW hc _ hL _
  have hW' := hW
  obtain ⟨p, q, hA, _, _, _, _⟩ := hW
  obtain ⟨hx, hf⟩ := args_sound 1 [shProg] Tryz.f6.params.toList args.toList ds p (by kernel_rfl) (fun j t v ht hv => hval0 j t v (by simpa using ht) (by simpa using hv)) hA
  simp only [FitDs] at hf
  obtain ⟨d1, ds1, rfl, hf1, rfl⟩ := hf
  have run := f6_run (W := W) (xs := args.toList) (d1 := d1) hL hx hf1
  have run' : Calls Tryz.prog 6 args W fun e w' => e = .returned (.bool true) ∧ Ab.Left W w' := run
  refine run'.mono fun e W' ⟨he, hL'⟩ => ?_
  subst he
  refine ⟨_, rfl, post_true (tb := 4) hW' rfl (fun l hl => ?_) (by kernel_rfl) (by kernel_rfl) (by kernel_rfl) ?_ hL'⟩
  · have hp : Tryz.f6.params.size = 1 := by kernel_rfl
    rw [hp] at hl
    match l, hl with
    | [x], _ => rfl
  · have hall : (Tryz.f6.params.toList.all fun t => Tryz.prog.readableRec t && decide (t < Tryz.prog.types.size)) = true := by kernel_rfl
    intro t ht
    have := List.all_eq_true.1 hall t ht
    simp only [Bool.and_eq_true, decide_eq_true_eq] at this
    exact this
theorem slpTexts_said : Rows.SlpTextsSaid :=
  OpenClaim.holds_of_wide 6 Tryz.f6 rfl rfl rfl rfl rfl rfl rfl ⟨rfl, rfl, rfl, rfl, rfl⟩ rfl rfl rfl rfl rfl (by kernel_rfl) Tryz.func6 (by kernel_rfl)
    (of_decide_eq_true (by kernel_rfl)) (by unfold Func.isWrapper; first | (rw [if_pos (by decide +kernel)]; kernel_rfl) | (rw [if_neg (by decide +kernel)]; exact ⟨rfl, rfl⟩))
    (fun os started H enc _ => slpTexts_lifted os started H enc)
theorem slpTexts_plain (f : FuncId) (fn : Func) (hf : Tryz.pinned.checked.prog.funcNamed "straightedge/straightedgelaw13.SlpTexts" = some f) (hfn : Tryz.pinned.checked.prog.funcs[f]? = some fn) :
    true = Tryz.pinned.checked.prog.looks [] ∧ ∀ (j : Nat) t, fn.params[j]? = some t → Tryz.pinned.checked.prog.wantsStandIn t = false := by
  obtain rfl : f = 6 := Option.some.inj ((show Tryz.prog.funcNamed "straightedge/straightedgelaw13.SlpTexts" = some 6 by kernel_rfl).symm.trans hf) |>.symm
  obtain rfl : fn = Tryz.f6 := (Option.some.inj (Tryz.func6.symm.trans hfn)).symm
  refine ⟨by kernel_rfl, fun j t ht => ?_⟩
  have hall : (Tryz.f6.params.toList.all fun u => !Tryz.prog.wantsStandIn u) = true := by kernel_rfl
  have := List.all_eq_true.1 hall t (by simpa using Array.mem_of_getElem? ht)
  simp only [Bool.not_eq_true'] at this
  exact this
theorem slpTexts_holds : Rows.SlpTextsCardSaid :=
  Claim7.holds_tied_plain_at .later [] _ _ _ _ slpTexts_said (fun _ h => by cases h) (by kernel_rfl) (fun _ h => by cases h) slpTexts_row_tie rfl ⟨rfl, rfl⟩ (by kernel_rfl) rfl slpTexts_plain (by kernel_rfl)
end Go.Proofs.YtnafklimohmfkaaGreatDoor
