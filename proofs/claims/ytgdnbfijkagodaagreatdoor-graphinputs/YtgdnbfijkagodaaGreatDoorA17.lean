/- GraphInputs: for every reading of its arguments of bulk at most 1048576 the law answers true, and its arguments read as they did. -/
import Derived.Test.YtgdnbfijkagodaaGreatDoorA13
import Derived.Test.YtgdnbfijkagodaaGreatDoorA14
import Derived.Test.YtgdnbfijkagodaaGreatDoorA16
import Derived.Test.YtgdnbfijkagodaaGreatDoorCards
import Derived.Test.YtgdnbfijkagodaaGreatDoorTie
import Derived.ProofKit
import Derived.OpenShut
import Derived.LaidMore
import Derived.Lay
import Derived.SevenTiedAt
import Derived.Stop.Joined
import Derived.Deep.DeepHandedRow
set_option linter.unusedSectionVars false
set_option linter.unusedSimpArgs false
namespace Go.Proofs.YtgdnbfijkagodaaGreatDoor
open Go.ChangeShapes Go.WideShapes Go.ChangeAt Go.RowKit Go.Ab Go.gw
theorem own:ownKnob Tryz.prog.godebug=none:=by kernel_rfl
theorem Pu{W:World}(oI:laidMetH Tryz.prog Rows.graphInputsUptoRow.laid W):km (fA W) Wd:=by rw[MakeChecks.laidMetH_plain _ _ _ (by kernel_rfl)] at oI;exact acX (d:=Rows.laid_internal_strconv_uint64pow10) oI (by simp [Rows.graphInputsUptoRow]) (by kernel_rfl)
theorem Wf{W:World}{xs:List Value}{H:Type}{d1:DataW H}(oI:laidMetH Tryz.prog Rows.graphInputsUptoRow.laid W)(a8:er (fA W) 1 [At (.bG mL) d1] xs)(q:jW (.bG mL) d1)(dl:Rows.uptoSmall H [d1]=true):Calls Tryz.prog 7 xs.toArray W fun e w'=>e=.returned (.bool true)∧Ab.Left W w':=by have r:Rows.uptoBulkAll [d1]≤1048576:=of_decide_eq_true dl;simp only[Rows.uptoBulkAll] at r;obtain⟨ec,u,dU,y,A,B⟩:=J8 q (by omega);have aT:=Go.gw.abd Wd abi rfl adX ec u y B A {own:=[],up:=[],ro:=[]};rw[dU] at a8;obtain⟨n,dp⟩:=o5 aK Wd abi (fun h=>by cases h) aT;exact Ar mixed acW abf adW dp (fun h=>by have F:some Dn=none:=h;cases F) (Pu oI) a8
set_option maxRecDepth 100000 in
theorem pK(os:Os)(started:os.Started)(H:Type)(enc:TypeId×Value→H)(F:Stop.Interp):
  ReturnsInHanded {} Tryz.checked os 7 .any ((Rows.OpenSpec.upto Rows.graphInputsSpec).preRow enc Tryz.prog Tryz.f7 Rows.graphInputsUptoRow.domain false Rows.graphInputsUptoRow.laid) (((Rows.OpenSpec.upto Rows.graphInputsSpec).at F).post enc Tryz.prog Tryz.f7 false true false false):=by
 refine returnsInHanded_of_row (C:=Tryz.checked) (s:=Rows.OpenSpec.upto Rows.graphInputsSpec) own started (by kernel_rfl) Tryz.func7
  (witness_row_at (enc:=enc) (C:=Tryz.checked) false (World.laidAll Tryz.prog os Rows.graphInputsUptoRow.laid) #[.slice none 0 0] (World.laidAll_os _ _ _) (by kernel_rfl) (by kernel_rfl) (by kernel_rfl)
   (OpenSpec.preRow_of_cond (x:=([.nil],[],[])) 8 (by kernel_rfl) (by kernel_rfl) (fun k dl=>by cases dl;kernel_rfl) (by kernel_rfl)
    (by rw[MakeChecks.laidMetH_plain _ _ _ (by kernel_rfl)];exact laidMet_laidAll _ (by kernel_rfl) (by kernel_rfl)))) ?_
 intro W base args ib gs before r h _ u _ oI _ _;have y:=h;obtain⟨p,q,A,B,L,_,_⟩:=h;obtain⟨a8,bB⟩:=td 1 [.bG mL] Tryz.f7.params.toList args.toList ib p (by kernel_rfl) (fun j t v eh bO=>r j t v (by simpa using eh) (by simpa using bO)) A;rw[lI] at bB;obtain⟨d1,M,rfl,I,bB⟩:=bB;rw[lI] at bB;subst bB;obtain⟨rfl,rfl⟩:=trodVars_none B;have run:=Wf (W:=W) (xs:=args.toList) (d1:=d1) oI a8 I (u _ rfl);have run':Calls Tryz.prog 7 args W fun e w'=>e=.returned (.bool true)∧Ab.Left W w':=run
 refine run'.mono fun e N ⟨he,J⟩=>?_
 subst he;refine⟨_,rfl,Du (s:=Rows.graphInputsSpec) (tb:=4) y rfl (fun l bK=>?_) (by kernel_rfl) (by kernel_rfl) (by kernel_rfl) ?_ J⟩
 ·have fC:Tryz.f7.params.size=1:=by kernel_rfl
  rw[fC] at bK
  match l,bK with
  |[hr],_=>rfl
 ·have K:(Tryz.f7.params.toList.all fun t=>Tryz.prog.readableRec t&&decide (t<Tryz.prog.types.size))=true:=by kernel_rfl
  intro t eh
  have:=List.all_eq_true.1 K t eh;simp only[bn,b1] at this;exact this
theorem sg:Rows.GraphInputsUptoSaid:=
 OpenClaim.holds_of_cond 7 Tryz.f7 rfl rfl rfl rfl rfl rfl rfl ⟨rfl,rfl,rfl,rfl,rfl⟩ rfl rfl rfl rfl rfl (by kernel_rfl) Tryz.func7 (by kernel_rfl)
  (of_decide_eq_true (by kernel_rfl)) (by unfold Func.isWrapper;first|(rw[if_pos (by decide +kernel)];kernel_rfl)|(rw[if_neg (by decide +kernel)];exact⟨rfl,rfl⟩))
  (fun os started H enc _ F=>by rw[OpenClaim.pre_eq_preRow];exact pK os started H enc F)
theorem qB(f:FuncId)(fn:Func)(bB:Tryz.pinned.checked.prog.funcNamed "straightedge/straightedgelaw12.GraphInputs" =some f)(e:Tryz.pinned.checked.prog.funcs[f]? =some fn):
  false=Tryz.pinned.checked.prog.looks []∧∀(j:Nat) t,fn.params[j]? =some t→Tryz.pinned.checked.prog.wantsStandIn t=false:=by
 obtain rfl:f=7:=Option.some.inj ((show Tryz.prog.funcNamed "straightedge/straightedgelaw12.GraphInputs" =some 7 by kernel_rfl).symm.trans bB) |>.symm;obtain rfl:fn=Tryz.f7:=(Option.some.inj (Tryz.func7.symm.trans e)).symm;refine⟨by kernel_rfl,fun j t eh=>?_⟩;have h:(Tryz.f7.params.toList.all fun u=> !Tryz.prog.wantsStandIn u)=true:=by kernel_rfl
 have:=List.all_eq_true.1 h t (by simpa using Array.mem_of_getElem? eh);simp only[Bool.not_eq_true'] at this;exact this
theorem graphInputs_holds:Rows.GraphInputsUptoCardSaid:=
 Claim7.holds_tied_plain_at .later [] _ _ _ _ sg (fun _ h=>by cases h) (by kernel_rfl) (fun _ h=>by cases h) graphInputsUpto_row_tie rfl ⟨rfl,rfl⟩ (by kernel_rfl) rfl qB (by kernel_rfl)
end Go.Proofs.YtgdnbfijkagodaaGreatDoor
