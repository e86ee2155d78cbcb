/- SlpTwice: for every list of inputs and every number the law answers true, and its arguments read as they did. -/
import Derived.Test.YtnafklimohmfkaaGreatDoorZL
import Derived.Test.YtnafklimohmfkaaGreatDoorTw4
import Derived.Test.YtnafklimohmfkaaGreatDoorTabOkZ
import Derived.Test.YtnafklimohmfkaaGreatDoorCards
import Derived.Test.YtnafklimohmfkaaGreatDoorTie
import Derived.ProofKit
import Derived.OpenShut
import Derived.LaidMore
import Derived.Lay
import Derived.SevenTiedAt
import Derived.Stop.Joined
namespace Go.Proofs.YtnafklimohmfkaaGreatDoor
open Go.ChangeShapes Go.WideShapes Go.ChangeAt Go.RowKit Go.Ab Go.AbZ

theorem own : ownKnob Tryz.prog.godebug = none := by kernel_rfl
theorem inv_int {H : Type} {d : DataW H} (h : FitD (Sh.int .i64) d) : ∃ a : Int, argD (Sh.int .i64) d = I a := by
  simp only [FitD] at h
  obtain ⟨n1, rfl, _⟩ := h
  exact ⟨n1, rfl⟩
theorem f9_run {W : World} {xs : List Value} {H : Type} {d1 d2 : DataW H} (hx : VRs (initKap W) 1 [argD shInts d1, argD (Sh.int .i64) d2] xs) (hf1 : FitD shInts d1) (hf2 : FitD (Sh.int .i64) d2) : Calls Tryz.prog 9 xs.toArray W fun e w' => e = .returned (.bool true) ∧ Ab.Left W w' := by
  obtain ⟨inp, gi, e2, hgi, _⟩ := inv_ints hf1
  obtain ⟨A, e3⟩ := inv_int hf2
  have e2' : argD shInts d1 = sl1 inp gi := by
    show (encD shInts d1).headD .dead = _
    rw [e2]; rfl
  have hr := f9_ok inp gi (fun d => by rcases hgi with rfl | rfl <;> rfl) A ok10
  obtain ⟨n, hn⟩ := callω_inv T1 G0 X0 (fun h => by cases h) hr
  rw [e2', e3] at hx
  exact calls_init mixed tdOK tabOK xOK hn (fun h => by have h' : some c9 = none := h; cases h') (g0OK _) hx

set_option maxRecDepth 100000 in
theorem slpTwice_lifted (os : Os) (started : os.Started) (H : Type) (enc : TypeId × Value → H) :
    ReturnsInHanded {} Tryz.checked os 9 .any (fun w args => (Rows.slpTwiceSpec.pre enc Tryz.prog Tryz.f9 Rows.slpTwiceRow.domain false w args ∧ laidMetH Tryz.prog Rows.slpTwiceRow.laid w) ∧ sizedMet enc Tryz.prog Tryz.f9 (OpenSpec.ofChange Rows.slpTwiceSpec) false w args)
      (Rows.slpTwiceSpec.post enc Tryz.prog Tryz.f9 false true false false) := by
  refine returnsInHanded_of_change_and (C := Tryz.checked) (X := fun w _ => laidMetH Tryz.prog Rows.slpTwiceRow.laid w) (fun _ _ _ hh h => h.of_heap hh) own started (by kernel_rfl) Tryz.func9
    (ChangeSpec.witness_shaped (enc := enc) (C := Tryz.checked) (os := os) (X := fun w _ => laidMetH Tryz.prog Rows.slpTwiceRow.laid w) false (World.laidAll Tryz.prog os Rows.slpTwiceRow.laid) #[.slice none 0 0, .int .i64 0] 8 (World.laidAll_os _ _ _)
      (World.shaped_of_ZipB (by kernel_rfl) (by kernel_rfl)) (by kernel_rfl) (by kernel_rfl) (by kernel_rfl)
      (by rw [MakeChecks.laidMetH_plain _ _ _ (by kernel_rfl)]; exact laidMet_laidAll _ (by kernel_rfl) (by kernel_rfl))) ?_
  intro W base args ds gs before hval0 hW hc _ hL _
  have hW' := hW
  obtain ⟨p, q, hA, _, _, _, _⟩ := hW
  obtain ⟨hx, hf⟩ := args_sound 1 [shInts, Sh.int .i64] Tryz.f9.params.toList args.toList ds p (by kernel_rfl) (fun j t v ht hv => hval0 j t v (by simpa using ht) (by simpa using hv)) hA
  simp only [FitDs] at hf
  obtain ⟨d1, ds1, rfl, hf1, d2, ds2, rfl, hf2, rfl⟩ := hf
  have run := f9_run (W := W) (xs := args.toList) (d1 := d1) (d2 := d2) hx (by simpa only [FitD] using hf1) (by simpa only [FitD] using hf2)
  have run' : Calls Tryz.prog 9 args W fun e w' => e = .returned (.bool true) ∧ Ab.Left W w' := run
  refine run'.mono fun e W' ⟨he, hL'⟩ => ?_
  subst he
  refine ⟨_, rfl, post_true (tb := 4) hW' rfl (fun l hl => ?_) (by kernel_rfl) (by kernel_rfl) (by kernel_rfl) ?_ hL'⟩
  · have hp : Tryz.f9.params.size = 2 := by kernel_rfl
    rw [hp] at hl
    match l, hl with
    | [x, y], _ => rfl
  · have hall : (Tryz.f9.params.toList.all fun t => Tryz.prog.readableRec t && decide (t < Tryz.prog.types.size)) = true := by kernel_rfl
    intro t ht
    have := List.all_eq_true.1 hall t ht
    simp only [Bool.and_eq_true, decide_eq_true_eq] at this
    exact this
theorem slpTwice_said : Rows.SlpTwiceSaid :=
  OpenClaim.holds_of_wide 9 Tryz.f9 rfl rfl rfl rfl rfl rfl rfl ⟨rfl, rfl, rfl, rfl, rfl⟩ rfl rfl rfl rfl rfl (by kernel_rfl) Tryz.func9 (by kernel_rfl)
    (of_decide_eq_true (by kernel_rfl)) (by unfold Func.isWrapper; first | (rw [if_pos (by decide +kernel)]; kernel_rfl) | (rw [if_neg (by decide +kernel)]; exact ⟨rfl, rfl⟩))
    (fun os started H enc _ => slpTwice_lifted os started H enc)
theorem slpTwice_plain (f : FuncId) (fn : Func) (hf : Tryz.pinned.checked.prog.funcNamed "straightedge/straightedgelaw13.SlpTwice" = some f) (hfn : Tryz.pinned.checked.prog.funcs[f]? = some fn) :
    true = Tryz.pinned.checked.prog.looks [] ∧ ∀ (j : Nat) t, fn.params[j]? = some t → Tryz.pinned.checked.prog.wantsStandIn t = false := by
  obtain rfl : f = 9 := Option.some.inj ((show Tryz.prog.funcNamed "straightedge/straightedgelaw13.SlpTwice" = some 9 by kernel_rfl).symm.trans hf) |>.symm
  obtain rfl : fn = Tryz.f9 := (Option.some.inj (Tryz.func9.symm.trans hfn)).symm
  refine ⟨by kernel_rfl, fun j t ht => ?_⟩
  have hall : (Tryz.f9.params.toList.all fun u => !Tryz.prog.wantsStandIn u) = true := by kernel_rfl
  have := List.all_eq_true.1 hall t (by simpa using Array.mem_of_getElem? ht)
  simp only [Bool.not_eq_true'] at this
  exact this
theorem slpTwice_holds : Rows.SlpTwiceCardSaid :=
  Claim7.holds_tied_plain_at .later [] _ _ _ _ slpTwice_said (fun _ h => by cases h) (by kernel_rfl) (fun _ h => by cases h) slpTwice_row_tie rfl ⟨rfl, rfl⟩ (by kernel_rfl) rfl slpTwice_plain (by kernel_rfl)
end Go.Proofs.YtnafklimohmfkaaGreatDoor
