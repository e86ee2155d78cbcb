/- GraphRemoval: for every reading of its arguments of bulk at most 1048576 the law answers true, and its arguments read as they did. -/
import Derived.Test.YtgdnbfijkagodaaGreatDoorA13
import Derived.Test.YtgdnbfijkagodaaGreatDoorA14
import Derived.Test.YtgdnbfijkagodaaGreatDoorA16
import Derived.Test.YtgdnbfijkagodaaGreatDoorCards
import Derived.Test.YtgdnbfijkagodaaGreatDoorTie
import Derived.ProofKit
import Derived.OpenShut
import Derived.LaidMore
import Derived.Lay
import Derived.SevenTiedAt
import Derived.Stop.Joined
import Derived.Deep.DeepHandedRow
set_option linter.unusedSectionVars false
set_option linter.unusedSimpArgs false
namespace Go.Proofs.YtgdnbfijkagodaaGreatDoor
open Go.ChangeShapes Go.WideShapes Go.ChangeAt Go.RowKit Go.Ab Go.gF
theorem own:ownKnob Tryz.prog.godebug=none:=by kernel_rfl
theorem Ug{W:World}(e:laidMetH Tryz.prog Rows.graphRemovalUptoRow.laid W):kQ (fU W) aa6:=by rw[MakeChecks.laidMetH_plain _ _ _ (by kernel_rfl)] at e;exact ahP (d:=Rows.laid_internal_strconv_uint64pow10) e (by simp [Rows.graphRemovalUptoRow]) (by kernel_rfl)
theorem aa8{W:World}{xs:List Value}{H:Type}{d1 d2:DataW H}(r:laidMetH Tryz.prog Rows.graphRemovalUptoRow.laid W)(a1:eH (fU W) 1 [wW (.bx nr) d1,wW (.int .i64) d2] xs)(u:jq (.bx nr) d1)(y:jq (.int .i64) d2)(cK:Rows.uptoSmall H [d1,d2]=true):Calls Tryz.prog 4 xs.toArray W fun e w'=>e=.returned (.bool true)∧Ab.Left W w':=by have A:Rows.uptoBulkAll [d1,d2]≤1048576:=of_decide_eq_true cK;simp only[Rows.uptoBulkAll] at A;obtain⟨er,B,dn,F,I,J⟩:=N7 u (by omega);obtain⟨n,rfl,M,cZ⟩:=TW y;have aV:=Go.gF.aga aa6 agf rfl aiE er B F J I n cZ {own:=[],up:=[],ro:=[]};rw[dn,M] at a1;obtain⟨n,cZ⟩:=pY aF aa6 agf (fun h=>by cases h) aV;exact CK mixed ahO agc aiD cZ (fun h=>by have N:some ls=none:=h;cases N) (Ug r) a1
set_option maxRecDepth 100000 in
theorem qq(os:Os)(started:os.Started)(H:Type)(enc:TypeId×Value→H)(F:Stop.Interp):
  ReturnsInHanded {} Tryz.checked os 4 .any ((Rows.OpenSpec.upto Rows.graphRemovalSpec).preRow enc Tryz.prog Tryz.f4 Rows.graphRemovalUptoRow.domain false Rows.graphRemovalUptoRow.laid) (((Rows.OpenSpec.upto Rows.graphRemovalSpec).at F).post enc Tryz.prog Tryz.f4 false true false false):=by
 refine returnsInHanded_of_row (C:=Tryz.checked) (s:=Rows.OpenSpec.upto Rows.graphRemovalSpec) own started (by kernel_rfl) Tryz.func4
  (witness_row_at (enc:=enc) (C:=Tryz.checked) false (World.laidAll Tryz.prog os Rows.graphRemovalUptoRow.laid) #[.slice none 0 0,.int .i64 0] (World.laidAll_os _ _ _) (by kernel_rfl) (by kernel_rfl) (by kernel_rfl)
   (OpenSpec.preRow_of_cond (x:=([.nil,.lit (.int .i64 0)],[],[])) 8 (by kernel_rfl) (by kernel_rfl) (fun k cK=>by cases cK;kernel_rfl) (by kernel_rfl)
    (by rw[MakeChecks.laidMetH_plain _ _ _ (by kernel_rfl)];exact laidMet_laidAll _ (by kernel_rfl) (by kernel_rfl)))) ?_
 intro W base args iE gs before r h _ u _ y _ _;have A:=h;obtain⟨p,q,hR,B,O,_,_⟩:=h;obtain⟨a1,bA⟩:=uE 1 [.bx nr,.int .i64] Tryz.f4.params.toList args.toList iE p (by kernel_rfl) (fun j t v eo bX=>r j t v (by simpa using eo) (by simpa using bX)) hR;rw[lE] at bA;obtain⟨d1,U,rfl,I,bA⟩:=bA;rw[lE] at bA;obtain⟨d2,V,rfl,J,bA⟩:=bA;rw[lE] at bA;subst bA;obtain⟨rfl,rfl⟩:=trodVars_none B;have run:=aa8 (W:=W) (xs:=args.toList) (d1:=d1) (d2:=d2) y a1 I J (u _ rfl);have run':Calls Tryz.prog 4 args W fun e w'=>e=.returned (.bool true)∧Ab.Left W w':=run
 refine run'.mono fun e Y ⟨he,M⟩=>?_
 subst he;refine⟨_,rfl,Gb (s:=Rows.graphRemovalSpec) (tb:=4) A rfl (fun l bU=>?_) (by kernel_rfl) (by kernel_rfl) (by kernel_rfl) ?_ M⟩
 ·have fS:Tryz.f4.params.size=2:=by kernel_rfl
  rw[fS] at bU
  match l,bU with
  |[g6,bP],_=>rfl
 ·have N:(Tryz.f4.params.toList.all fun t=>Tryz.prog.readableRec t&&decide (t<Tryz.prog.types.size))=true:=by kernel_rfl
  intro t eo
  have:=List.all_eq_true.1 N t eo;simp only[bo,b9] at this;exact this
theorem rK:Rows.GraphRemovalUptoSaid:=
 OpenClaim.holds_of_cond 4 Tryz.f4 rfl rfl rfl rfl rfl rfl rfl ⟨rfl,rfl,rfl,rfl,rfl⟩ rfl rfl rfl rfl rfl (by kernel_rfl) Tryz.func4 (by kernel_rfl)
  (of_decide_eq_true (by kernel_rfl)) (by unfold Func.isWrapper;first|(rw[if_pos (by decide +kernel)];kernel_rfl)|(rw[if_neg (by decide +kernel)];exact⟨rfl,rfl⟩))
  (fun os started H enc _ F=>by rw[OpenClaim.pre_eq_preRow];exact qq os started H enc F)
theorem qK(f:FuncId)(fn:Func)(bA:Tryz.pinned.checked.prog.funcNamed "straightedge/straightedgelaw12.GraphRemoval" =some f)(e:Tryz.pinned.checked.prog.funcs[f]? =some fn):
  false=Tryz.pinned.checked.prog.looks []∧∀(j:Nat) t,fn.params[j]? =some t→Tryz.pinned.checked.prog.wantsStandIn t=false:=by
 obtain rfl:f=4:=Option.some.inj ((show Tryz.prog.funcNamed "straightedge/straightedgelaw12.GraphRemoval" =some 4 by kernel_rfl).symm.trans bA) |>.symm;obtain rfl:fn=Tryz.f4:=(Option.some.inj (Tryz.func4.symm.trans e)).symm;refine⟨by kernel_rfl,fun j t eo=>?_⟩;have h:(Tryz.f4.params.toList.all fun u=> !Tryz.prog.wantsStandIn u)=true:=by kernel_rfl
 have:=List.all_eq_true.1 h t (by simpa using Array.mem_of_getElem? eo);simp only[Bool.not_eq_true'] at this;exact this
theorem graphRemoval_holds:Rows.GraphRemovalUptoCardSaid:=
 Claim7.holds_tied_plain_at .later [] _ _ _ _ rK (fun _ h=>by cases h) (by kernel_rfl) (fun _ h=>by cases h) graphRemovalUpto_row_tie rfl ⟨rfl,rfl⟩ (by kernel_rfl) rfl qK (by kernel_rfl)
end Go.Proofs.YtgdnbfijkagodaaGreatDoor
