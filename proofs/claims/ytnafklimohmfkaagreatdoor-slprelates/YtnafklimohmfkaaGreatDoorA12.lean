/- SlpRelates: for every list of steps and every relation whose data is together of bulk at most 1048576 the law answers true, and its arguments read as they did. -/
import Derived.Test.YtnafklimohmfkaaGreatDoorA9
import Derived.Test.YtnafklimohmfkaaGreatDoorA11
import Derived.Test.YtnafklimohmfkaaGreatDoorCards
import Derived.Test.YtnafklimohmfkaaGreatDoorTie
import Derived.ProofKit
import Derived.OpenShut
import Derived.LaidMore
import Derived.Lay
import Derived.SevenTiedAt
import Derived.Stop.Joined
import Derived.Deep.DeepHandedRow
set_option linter.unusedSectionVars false
namespace Go.Proofs.YtnafklimohmfkaaGreatDoor
open Go.ChangeShapes Go.WideShapes Go.ChangeAt Go.RowKit Go.Ab Go.h6
theorem own:ownKnob Tryz.prog.godebug=none:=by kernel_rfl
theorem aqL{W:World}{xs:List Value}{H:Type}{d1 d2:DataW H}(aT:ea (fZ W) 1 [y1 (.aW kt) d1,y1 rR d2] xs)(r:gX (.aW kt) d1)(u:gX rR d2)(y:Rows.uptoBulk d1≤1048576)(B:Rows.uptoBulk d2≤1048576):Calls Tryz.prog 7 xs.toArray W fun e w'=>e=.returned (.bool true)∧Ab.Left W w':=by obtain⟨l,g,e,bD,br,b6⟩:=RJ r y;obtain⟨k,I,g0,J,M,jw⟩:=aiZ u B;obtain⟨N,K⟩:=awq;have aQ:=Go.h6.avr avA avz l g bD br b6 k I g0 jw {own:=[],up:=[],ro:=[]} K;obtain⟨n,bX⟩:=pT au avA avz (fun h=>by cases h) aQ;rw[e,J] at aT;exact Gj mixed awo avu aw6 bX (fun h=>by have L:some aws=none:=h;cases L) (awp _) aT
theorem abe{H:Type}{d1 d2:DataW H}(cg:Rows.uptoSmall H [d1,d2]=true):Rows.uptoBulk d1≤1048576∧Rows.uptoBulk d2≤1048576:=by have h:Rows.uptoBulkAll [d1,d2]≤1048576:=of_decide_eq_true cg;simp only[Rows.uptoBulkAll] at h;omega
set_option maxRecDepth 100000 in
theorem rS(os:Os)(started:os.Started)(H:Type)(enc:TypeId×Value→H)(F:Stop.Interp):
  ReturnsInHanded {} Tryz.checked os 7 .any ((Rows.OpenSpec.upto Rows.slpRelatesSpec).preRow enc Tryz.prog Tryz.f7 Rows.slpRelatesUptoRow.domain false Rows.slpRelatesUptoRow.laid) (((Rows.OpenSpec.upto Rows.slpRelatesSpec).at F).post enc Tryz.prog Tryz.f7 false true false false):=by
 refine returnsInHanded_of_row (C:=Tryz.checked) (s:=Rows.OpenSpec.upto Rows.slpRelatesSpec) own started (by kernel_rfl) Tryz.func7
  (witness_row_at (enc:=enc) (C:=Tryz.checked) false (World.laidAll Tryz.prog os Rows.slpRelatesUptoRow.laid) #[.slice none 0 0,.agg #[.int .i64 0,.slice none 0 0]] (World.laidAll_os _ _ _) (by kernel_rfl) (by kernel_rfl) (by kernel_rfl)
   (OpenSpec.preRow_of_cond (x:=([.nil,.agg [.lit (.int .i64 0),.nil]],[],[])) 8 (by kernel_rfl) (by kernel_rfl) (fun k cg=>by cases cg;kernel_rfl) (by kernel_rfl)
    (by rw[MakeChecks.laidMetH_plain _ _ _ (by kernel_rfl)];exact laidMet_laidAll _ (by kernel_rfl) (by kernel_rfl)))) ?_
 intro W base args ib gs before r h _ u _ R _ _;have B:=h;obtain⟨p,q,I,J,U,_,_⟩:=h;obtain⟨aT,bq⟩:=vZ 1 [.aW kt,rR] Tryz.f7.params.toList args.toList ib p (by kernel_rfl) (fun j t v cB bG=>r j t v (by simpa using cB) (by simpa using bG)) I;rw[gh] at bq;obtain⟨d1,V,rfl,K,bq⟩:=bq;rw[gh] at bq;obtain⟨d2,Y,rfl,L,bq⟩:=bq;rw[gh] at bq;subst bq;obtain⟨rfl,rfl⟩:=trodVars_none J;obtain⟨M,N⟩:=abe (u _ rfl);have run:=aqL (W:=W) (xs:=args.toList) (d1:=d1) (d2:=d2) aT K L M N;have run':Calls Tryz.prog 7 args W fun e w'=>e=.returned (.bool true)∧Ab.Left W w':=run
 refine run'.mono fun e Z ⟨he,O⟩=>?_
 subst he;refine⟨_,rfl,No (s:=Rows.slpRelatesSpec) (tb:=4) B rfl (fun l br=>?_) (by kernel_rfl) (by kernel_rfl) (by kernel_rfl) ?_ O⟩
 ·have aU:Tryz.f7.params.size=2:=by kernel_rfl
  rw[aU] at br
  match l,br with
  |[x,y],_=>rfl
 ·have Q:(Tryz.f7.params.toList.all fun t=>Tryz.prog.readableRec t&&decide (t<Tryz.prog.types.size))=true:=by kernel_rfl
  intro t cB
  have:=List.all_eq_true.1 Q t cB;simp only[bL,ij] at this;exact this
theorem vz:Rows.SlpRelatesUptoSaid:=
 OpenClaim.holds_of_cond 7 Tryz.f7 rfl rfl rfl rfl rfl rfl rfl ⟨rfl,rfl,rfl,rfl,rfl⟩ rfl rfl rfl rfl rfl (by kernel_rfl) Tryz.func7 (by kernel_rfl)
  (of_decide_eq_true (by kernel_rfl)) (by unfold Func.isWrapper;first|(rw[if_pos (by decide +kernel)];kernel_rfl)|(rw[if_neg (by decide +kernel)];exact⟨rfl,rfl⟩))
  (fun os started H enc _ F=>by rw[OpenClaim.pre_eq_preRow];exact rS os started H enc F)
theorem uN(f:FuncId)(fn:Func)(bq:Tryz.pinned.checked.prog.funcNamed "straightedge/straightedgelaw13.SlpRelates" =some f)(e:Tryz.pinned.checked.prog.funcs[f]? =some fn):
  true=Tryz.pinned.checked.prog.looks []∧∀(j:Nat) t,fn.params[j]? =some t→Tryz.pinned.checked.prog.wantsStandIn t=false:=by
 obtain rfl:f=7:=Option.some.inj ((show Tryz.prog.funcNamed "straightedge/straightedgelaw13.SlpRelates" =some 7 by kernel_rfl).symm.trans bq) |>.symm;obtain rfl:fn=Tryz.f7:=(Option.some.inj (Tryz.func7.symm.trans e)).symm;refine⟨by kernel_rfl,fun j t cB=>?_⟩;have h:(Tryz.f7.params.toList.all fun u=> !Tryz.prog.wantsStandIn u)=true:=by kernel_rfl
 have:=List.all_eq_true.1 h t (by simpa using Array.mem_of_getElem? cB);simp only[Bool.not_eq_true'] at this;exact this
theorem slpRelates_holds:Rows.SlpRelatesUptoCardSaid:=
 Claim7.holds_tied_plain_at .later [] _ _ _ _ vz (fun _ h=>by cases h) (by kernel_rfl) (fun _ h=>by cases h) slpRelatesUpto_row_tie rfl ⟨rfl,rfl⟩ (by kernel_rfl) rfl uN (by kernel_rfl)
end Go.Proofs.YtnafklimohmfkaaGreatDoor
