/- SlpCompiles: for every list of steps whose data is of bulk at most 1048576 the law answers true, and its argument reads as it did. -/
import Derived.Test.YtnafklimohmfkaaGreatDoorA9
import Derived.Test.YtnafklimohmfkaaGreatDoorA11
import Derived.Test.YtnafklimohmfkaaGreatDoorCards
import Derived.Test.YtnafklimohmfkaaGreatDoorTie
import Derived.ProofKit
import Derived.OpenShut
import Derived.LaidMore
import Derived.Lay
import Derived.SevenTiedAt
import Derived.Stop.Joined
import Derived.Deep.DeepHandedRow
set_option linter.unusedSectionVars false
set_option linter.unusedSimpArgs false
set_option linter.unusedVariables false
namespace Go.Proofs.YtnafklimohmfkaaGreatDoor
open Go.ChangeShapes Go.WideShapes Go.ChangeAt Go.RowKit Go.Ab Go.jY
theorem own:ownKnob Tryz.prog.godebug=none:=by kernel_rfl
theorem axA{W:World}{xs:List Value}{H:Type}{d1:DataW H}(hx:dS (gC W) 1 [MZ (.sl mG) d1] xs)(my:jw (.sl mG) d1)(hb:Rows.uptoBulk d1≤1048576):Calls Tryz.prog 3 xs.toArray W fun e w'=>e= .returned (.bool true)∧Ab.Left W w':=by
 obtain⟨l,g,e,hg,hl,ct⟩:=YJ my hb
 obtain⟨s10,CV⟩:=aFO
 have hr:=Go.jY.aC6 G0 X0 l g hg hl ct {own:=[],up:=[],ro:=[]} CV
 obtain⟨n,hn⟩:=wJ T1 G0 X0 (fun h=>by cases h) hr
 rw[e] at hx
 exact MX mixed aFM aC8 xOK hn (fun h=>by have h':some c3=none:=h;cases h') (aFN _) hx
theorem ah6{H:Type}{d1:DataW H}(hk:Rows.uptoSmall H [d1]=true):Rows.uptoBulk d1≤1048576:=by
 have h:Rows.uptoBulkAll [d1]≤1048576:=of_decide_eq_true hk
 simp only[Rows.uptoBulkAll] at h
 omega
set_option maxRecDepth 100000 in
theorem vW(os:Os)(started:os.Started)(H:Type)(enc:TypeId×Value→H)(F:Stop.Interp):
  ReturnsInHanded {} Tryz.checked os 3 .any ((Rows.OpenSpec.upto Rows.slpCompilesSpec).preRow enc Tryz.prog Tryz.f3 Rows.slpCompilesUptoRow.domain false Rows.slpCompilesUptoRow.laid) (((Rows.OpenSpec.upto Rows.slpCompilesSpec).at F).post enc Tryz.prog Tryz.f3 false true false false):=by
 refine returnsInHanded_of_row (C:=Tryz.checked) (s:=Rows.OpenSpec.upto Rows.slpCompilesSpec) own started (by kernel_rfl) Tryz.func3
  (witness_row_at (enc:=enc) (C:=Tryz.checked) false (World.laidAll Tryz.prog os Rows.slpCompilesUptoRow.laid) #[.slice none 0 0] (World.laidAll_os _ _ _) (by kernel_rfl) (by kernel_rfl) (by kernel_rfl)
   (OpenSpec.preRow_of_cond (x:=([.nil],[],[])) 8 (by kernel_rfl) (by kernel_rfl) (fun k hk=>by cases hk;kernel_rfl) (by kernel_rfl)
    (by rw[MakeChecks.laidMetH_plain _ _ _ (by kernel_rfl)];exact laidMet_laidAll _ (by kernel_rfl) (by kernel_rfl)))) ?_
 intro W base args ds gs before aC9 hW _ aDa _ hL _ _
 have hW':=hW
 obtain⟨p,q,hA,hV,hgs,_,_⟩:=hW
 obtain⟨hx,hf⟩:=BR 1 [.sl mG] Tryz.f3.params.toList args.toList ds p (by kernel_rfl) (fun j t v ht hv=>aC9 j t v (by simpa using ht) (by simpa using hv)) hA
 simp only[jf] at hf
 obtain⟨d1,ds1,rfl,my,rfl⟩:=hf
 obtain⟨rfl,rfl⟩:=trodVars_none hV
 have hb:Rows.uptoBulk d1≤1048576:=ah6 (aDa _ rfl)
 have run:=axA (W:=W) (xs:=args.toList) (d1:=d1) hx (by rw[jw];exact my) hb
 have run':Calls Tryz.prog 3 args W fun e w'=>e= .returned (.bool true)∧Ab.Left W w':=run
 refine run'.mono fun e W' ⟨he,hL'⟩=>?_
 subst he
 refine⟨_,rfl,UA (s:=Rows.slpCompilesSpec) (tb:=4) hW' rfl (fun l hl=>?_) (by kernel_rfl) (by kernel_rfl) (by kernel_rfl) ?_ hL'⟩
 ·have hp:Tryz.f3.params.size=1:=by kernel_rfl
  rw[hp] at hl
  match l,hl with
  | [x],_=>rfl
 ·have qk:(Tryz.f3.params.toList.all fun t=>Tryz.prog.readableRec t && decide (t < Tryz.prog.types.size))=true:=by kernel_rfl
  intro t ht
  have:=List.all_eq_true.1 qk t ht
  simp only[bD,jV] at this
  exact this
theorem Ar:Rows.SlpCompilesUptoSaid:=
 OpenClaim.holds_of_cond 3 Tryz.f3 rfl rfl rfl rfl rfl rfl rfl ⟨rfl,rfl,rfl,rfl,rfl⟩ rfl rfl rfl rfl rfl (by kernel_rfl) Tryz.func3 (by kernel_rfl)
  (of_decide_eq_true (by kernel_rfl)) (by unfold Func.isWrapper;first | (rw[if_pos (by decide +kernel)];kernel_rfl) | (rw[if_neg (by decide +kernel)];exact⟨rfl,rfl⟩))
  (fun os started H enc _ F=>by rw[OpenClaim.pre_eq_preRow];exact vW os started H enc F)
theorem w6(f:FuncId)(fn:Func)(hf:Tryz.pinned.checked.prog.funcNamed "straightedge/straightedgelaw13.SlpCompiles" =some f)(AI:Tryz.pinned.checked.prog.funcs[f]? =some fn):
  true=Tryz.pinned.checked.prog.looks []∧∀(j:Nat) t,fn.params[j]? =some t→Tryz.pinned.checked.prog.wantsStandIn t=false:=by
 obtain rfl:f=3:=Option.some.inj ((show Tryz.prog.funcNamed "straightedge/straightedgelaw13.SlpCompiles" =some 3 by kernel_rfl).symm.trans hf) |>.symm
 obtain rfl:fn=Tryz.f3:=(Option.some.inj (Tryz.func3.symm.trans AI)).symm
 refine⟨by kernel_rfl,fun j t ht=>?_⟩
 have qk:(Tryz.f3.params.toList.all fun u=> !Tryz.prog.wantsStandIn u)=true:=by kernel_rfl
 have:=List.all_eq_true.1 qk t (by simpa using Array.mem_of_getElem? ht)
 simp only[Bool.not_eq_true'] at this
 exact this
theorem slpCompiles_holds:Rows.SlpCompilesUptoCardSaid:=
 Claim7.holds_tied_plain_at .later [] _ _ _ _ Ar (fun _ h=>by cases h) (by kernel_rfl) (fun _ h=>by cases h) slpCompilesUpto_row_tie rfl ⟨rfl,rfl⟩ (by kernel_rfl) rfl w6 (by kernel_rfl)
end Go.Proofs.YtnafklimohmfkaaGreatDoor
