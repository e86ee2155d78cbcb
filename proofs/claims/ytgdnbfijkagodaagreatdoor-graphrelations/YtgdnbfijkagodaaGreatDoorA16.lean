/- GraphRelations: for every reading of its arguments of bulk at most 1048576 the law answers true, and its arguments read as they did. -/
import Derived.Test.YtgdnbfijkagodaaGreatDoorA13
import Derived.Test.YtgdnbfijkagodaaGreatDoorA12
import Derived.Test.YtgdnbfijkagodaaGreatDoorA15
import Derived.Test.YtgdnbfijkagodaaGreatDoorCards
import Derived.Test.YtgdnbfijkagodaaGreatDoorTie
import Derived.ProofKit
import Derived.OpenShut
import Derived.LaidMore
import Derived.Lay
import Derived.SevenTiedAt
import Derived.Stop.Joined
import Derived.Deep.DeepHandedRow
set_option linter.unusedSectionVars false
set_option linter.unusedSimpArgs false
set_option linter.unusedVariables false
namespace Go.Proofs.YtgdnbfijkagodaaGreatDoor
open Go.ChangeShapes Go.WideShapes Go.ChangeAt Go.RowKit Go.Ab Go.gR
theorem own:ownKnob Tryz.prog.godebug=none:=by kernel_rfl
theorem OE{W:World}(n2:laidMetH Tryz.prog Rows.graphRelationsUptoRow.laid W):j9 (fv W) Vi:=by rw[MakeChecks.laidMetH_plain _ _ _ (by kernel_rfl)] at n2;exact ab3 (d:=Rows.laid_internal_strconv_uint64pow10) n2 (by simp [Rows.graphRelationsUptoRow]) (by kernel_rfl)
theorem Vk{W:World}{xs:List Value}{H:Type}{d1 d2 d3:DataW H}(n2:laidMetH Tryz.prog Rows.graphRelationsUptoRow.laid W)(a9:ej (fv W) 1 [pV (.cr mD) d1,pV (.int .i64) d2,pV r9 d3] xs)(r:h8 (.cr mD) d1)(u:h8 (.int .i64) d2)(y:h8 r9 d3)(dc:Rows.uptoSmall H [d1,d2,d3]=true):Calls Tryz.prog 6 xs.toArray W fun e w'=>e=.returned (.bool true)∧Ab.Left W w':=by have A:Rows.uptoBulkAll [d1,d2,d3]≤1048576:=of_decide_eq_true dc;simp only[Rows.uptoBulkAll] at A;obtain⟨ea,B,dM,F,I,J⟩:=JD r (by omega);obtain⟨kind,rfl,K,L⟩:=OB u;obtain⟨M,pd,N,V,qh,O⟩:=JB y;have aQ:=Go.gR.aap Vi aat rfl ac5 ea B F J I kind L M pd O (by omega) {own:=[],up:=[],ro:=[]};rw[dM,K,N] at a9;obtain⟨n,dk⟩:=oW aR Vi aat (fun h=>by cases h) aQ;exact z9 mixed ab2 aar ac4 dk (fun h=>by have U:some xB=none:=h;cases U) (OE n2) a9
set_option maxRecDepth 100000 in
theorem om(os:Os)(started:os.Started)(H:Type)(enc:TypeId×Value→H)(F:Stop.Interp):
  ReturnsInHanded {} Tryz.checked os 6 .any ((Rows.OpenSpec.upto Rows.graphRelationsSpec).preRow enc Tryz.prog Tryz.f6 Rows.graphRelationsUptoRow.domain false Rows.graphRelationsUptoRow.laid) (((Rows.OpenSpec.upto Rows.graphRelationsSpec).at F).post enc Tryz.prog Tryz.f6 false true false false):=by
 refine returnsInHanded_of_row (C:=Tryz.checked) (s:=Rows.OpenSpec.upto Rows.graphRelationsSpec) own started (by kernel_rfl) Tryz.func6
  (witness_row_at (enc:=enc) (C:=Tryz.checked) false (World.laidAll Tryz.prog os Rows.graphRelationsUptoRow.laid) #[.slice none 0 0,.int .i64 0,.slice none 0 0] (World.laidAll_os _ _ _) (by kernel_rfl) (by kernel_rfl) (by kernel_rfl)
   (OpenSpec.preRow_of_cond (x:=([.nil,.lit (.int .i64 0),.nil],[],[])) 8 (by kernel_rfl) (by kernel_rfl) (fun k dc=>by cases dc;kernel_rfl) (by kernel_rfl)
    (by rw[MakeChecks.laidMetH_plain _ _ _ (by kernel_rfl)];exact laidMet_laidAll _ (by kernel_rfl) (by kernel_rfl)))) ?_
 intro W base args h3 gs before r h _ u _ n2 _ _;have y:=h;obtain⟨p,q,A,B,N,_,_⟩:=h;obtain⟨a9,bt⟩:=s9 1 [.cr mD,.int .i64,r9] Tryz.f6.params.toList args.toList h3 p (by kernel_rfl) (fun j t v dU bJ=>r j t v (by simpa using dU) (by simpa using bJ)) A;rw[kn] at bt;obtain⟨d1,O,rfl,I,bt⟩:=bt;rw[kn] at bt;obtain⟨d2,U,rfl,J,bt⟩:=bt;rw[kn] at bt;obtain⟨d3,V,rfl,K,bt⟩:=bt;rw[kn] at bt;subst bt;obtain⟨rfl,rfl⟩:=trodVars_none B;have run:=Vk (W:=W) (xs:=args.toList) (d1:=d1) (d2:=d2) (d3:=d3) n2 a9 I J K (u _ rfl);have run':Calls Tryz.prog 6 args W fun e w'=>e=.returned (.bool true)∧Ab.Left W w':=run
 refine run'.mono fun e Y ⟨he,L⟩=>?_
 subst he;refine⟨_,rfl,Dd (s:=Rows.graphRelationsSpec) (tb:=4) y rfl (fun l bK=>?_) (by kernel_rfl) (by kernel_rfl) (by kernel_rfl) ?_ L⟩
 ·have fp:Tryz.f6.params.size=3:=by kernel_rfl
  rw[fp] at bK
  match l,bK with
  |[iw,bQ,Z],_=>rfl
 ·have M:(Tryz.f6.params.toList.all fun t=>Tryz.prog.readableRec t&&decide (t<Tryz.prog.types.size))=true:=by kernel_rfl
  intro t dU
  have:=List.all_eq_true.1 M t dU;simp only[bm,b6] at this;exact this
theorem pi:Rows.GraphRelationsUptoSaid:=
 OpenClaim.holds_of_cond 6 Tryz.f6 rfl rfl rfl rfl rfl rfl rfl ⟨rfl,rfl,rfl,rfl,rfl⟩ rfl rfl rfl rfl rfl (by kernel_rfl) Tryz.func6 (by kernel_rfl)
  (of_decide_eq_true (by kernel_rfl)) (by unfold Func.isWrapper;first|(rw[if_pos (by decide +kernel)];kernel_rfl)|(rw[if_neg (by decide +kernel)];exact⟨rfl,rfl⟩))
  (fun os started H enc _ F=>by rw[OpenClaim.pre_eq_preRow];exact om os started H enc F)
theorem oA(f:FuncId)(fn:Func)(bt:Tryz.pinned.checked.prog.funcNamed "straightedge/straightedgelaw12.GraphRelations" =some f)(e:Tryz.pinned.checked.prog.funcs[f]? =some fn):
  false=Tryz.pinned.checked.prog.looks []∧∀(j:Nat) t,fn.params[j]? =some t→Tryz.pinned.checked.prog.wantsStandIn t=false:=by
 obtain rfl:f=6:=Option.some.inj ((show Tryz.prog.funcNamed "straightedge/straightedgelaw12.GraphRelations" =some 6 by kernel_rfl).symm.trans bt) |>.symm;obtain rfl:fn=Tryz.f6:=(Option.some.inj (Tryz.func6.symm.trans e)).symm;refine⟨by kernel_rfl,fun j t dU=>?_⟩;have h:(Tryz.f6.params.toList.all fun u=> !Tryz.prog.wantsStandIn u)=true:=by kernel_rfl
 have:=List.all_eq_true.1 h t (by simpa using Array.mem_of_getElem? dU);simp only[Bool.not_eq_true'] at this;exact this
theorem graphRelations_holds:Rows.GraphRelationsUptoCardSaid:=
 Claim7.holds_tied_plain_at .later [] _ _ _ _ pi (fun _ h=>by cases h) (by kernel_rfl) (fun _ h=>by cases h) graphRelationsUpto_row_tie rfl ⟨rfl,rfl⟩ (by kernel_rfl) rfl oA (by kernel_rfl)
end Go.Proofs.YtgdnbfijkagodaaGreatDoor
