/- GraphLimits: for every reading of its arguments of bulk at most 1048576 the law answers true, and its arguments read as they did. -/
import Derived.Test.YtgdnbfijkagodaaGreatDoorA13
import Derived.Test.YtgdnbfijkagodaaGreatDoorA14
import Derived.Test.YtgdnbfijkagodaaGreatDoorA16
import Derived.Test.YtgdnbfijkagodaaGreatDoorCards
import Derived.Test.YtgdnbfijkagodaaGreatDoorTie
import Derived.ProofKit
import Derived.OpenShut
import Derived.LaidMore
import Derived.Lay
import Derived.SevenTiedAt
import Derived.Stop.Joined
import Derived.Deep.DeepHandedRow
set_option linter.unusedSectionVars false
set_option linter.unusedSimpArgs false
namespace Go.Proofs.YtgdnbfijkagodaaGreatDoor
open Go.ChangeShapes Go.WideShapes Go.ChangeAt Go.RowKit Go.Ab Go.f0
theorem own:ownKnob Tryz.prog.godebug=none:=by kernel_rfl
theorem LB{W:World}(e:laidMetH Tryz.prog Rows.graphLimitsUptoRow.laid W):jR (fe W) R6:=by rw[MakeChecks.laidMetH_plain _ _ _ (by kernel_rfl)] at e;exact YE (d:=Rows.laid_internal_strconv_uint64pow10) e (by simp [Rows.graphLimitsUptoRow]) (by kernel_rfl)
theorem R8{W:World}{xs:List Value}{H:Type}{d1 d2 d3 d4:DataW H}(p:laidMetH Tryz.prog Rows.graphLimitsUptoRow.laid W)(aZ:d9 (fe W) 1 [st (.int .i64) d1,st (.int .i64) d2,st (.int .i64) d3,st .bool d4] xs)(q:jN (.int .i64) d1)(r:jN (.int .i64) d2)(A:jN (.int .i64) d3)(B:jN .bool d4)(c3:Rows.uptoSmall H [d1,d2,d3,d4]=true):Calls Tryz.prog 5 xs.toArray W fun e w'=>e=.returned (.bool true)∧Ab.Left W w':=by have F:Rows.uptoBulkAll [d1,d2,d3,d4]≤1048576:=of_decide_eq_true c3;simp only[Rows.uptoBulkAll] at F;obtain⟨x,rfl,dI,I⟩:=vi q;obtain⟨y,rfl,J,M⟩:=vi r;obtain⟨z,rfl,N,O⟩:=vi A;obtain⟨b,rfl,U⟩:=G7 B;have aJ:=Go.f0.WQ R6 W0 rfl ZK x y z I M O b {own:=[],up:=[],ro:=[]};rw[dI,J,N,U] at aZ;obtain⟨n,df⟩:=om a4 R6 W0 (fun h=>by cases h) aJ;exact za mixed YD WS ZJ df (fun h=>by have V:some o7=none:=h;cases V) (LB p) aZ
set_option maxRecDepth 100000 in
theorem oY(os:Os)(started:os.Started)(H:Type)(enc:TypeId×Value→H)(F:Stop.Interp):
  ReturnsInHanded {} Tryz.checked os 5 .any ((Rows.OpenSpec.upto Rows.graphLimitsSpec).preRow enc Tryz.prog Tryz.f5 Rows.graphLimitsUptoRow.domain false Rows.graphLimitsUptoRow.laid) (((Rows.OpenSpec.upto Rows.graphLimitsSpec).at F).post enc Tryz.prog Tryz.f5 false true false false):=by
 refine returnsInHanded_of_row (C:=Tryz.checked) (s:=Rows.OpenSpec.upto Rows.graphLimitsSpec) own started (by kernel_rfl) Tryz.func5
  (witness_row_at (enc:=enc) (C:=Tryz.checked) false (World.laidAll Tryz.prog os Rows.graphLimitsUptoRow.laid) #[.int .i64 0,.int .i64 0,.int .i64 0,.bool false] (World.laidAll_os _ _ _) (by kernel_rfl) (by kernel_rfl) (by kernel_rfl)
   (OpenSpec.preRow_of_cond (x:=([.lit (.int .i64 0),.lit (.int .i64 0),.lit (.int .i64 0),.lit (.bool false)],[],[])) 8 (by kernel_rfl) (by kernel_rfl) (fun k c3=>by cases c3;kernel_rfl) (by kernel_rfl)
    (by rw[MakeChecks.laidMetH_plain _ _ _ (by kernel_rfl)];exact laidMet_laidAll _ (by kernel_rfl) (by kernel_rfl)))) ?_
 intro W base args io gs before r h _ y _ A _ _;have B:=h;obtain⟨p,q,I,J,Z,_,_⟩:=h;obtain⟨aZ,bg⟩:=su 1 [.int .i64,.int .i64,.int .i64,.bool] Tryz.f5.params.toList args.toList io p (by kernel_rfl) (fun j t v d6 bD=>r j t v (by simpa using d6) (by simpa using bD)) I;rw[kA] at bg;obtain⟨d1,aa,rfl,M,bg⟩:=bg;rw[kA] at bg;obtain⟨d2,ab,rfl,N,bg⟩:=bg;rw[kA] at bg;obtain⟨d3,ac,rfl,O,bg⟩:=bg;rw[kA] at bg;obtain⟨d4,ad,rfl,U,bg⟩:=bg;rw[kA] at bg;subst bg;obtain⟨rfl,rfl⟩:=trodVars_none J;have run:=R8 (W:=W) (xs:=args.toList) (d1:=d1) (d2:=d2) (d3:=d3) (d4:=d4) A aZ M N O U (y _ rfl);have run':Calls Tryz.prog 5 args W fun e w'=>e=.returned (.bool true)∧Ab.Left W w':=run
 refine run'.mono fun e ae ⟨he,V⟩=>?_
 subst he;refine⟨_,rfl,B4 (s:=Rows.graphLimitsSpec) (tb:=4) B rfl (fun l bO=>?_) (by kernel_rfl) (by kernel_rfl) (by kernel_rfl) ?_ V⟩
 ·have gb:Tryz.f5.params.size=4:=by kernel_rfl
  rw[gb] at bO
  match l,bO with
  |[li,cg,af,ag],_=>rfl
 ·have Y:(Tryz.f5.params.toList.all fun t=>Tryz.prog.readableRec t&&decide (t<Tryz.prog.types.size))=true:=by kernel_rfl
  intro t d6
  have:=List.all_eq_true.1 Y t d6;simp only[bm,cj] at this;exact this
theorem rq:Rows.GraphLimitsUptoSaid:=
 OpenClaim.holds_of_cond 5 Tryz.f5 rfl rfl rfl rfl rfl rfl rfl ⟨rfl,rfl,rfl,rfl,rfl⟩ rfl rfl rfl rfl rfl (by kernel_rfl) Tryz.func5 (by kernel_rfl)
  (of_decide_eq_true (by kernel_rfl)) (by unfold Func.isWrapper;first|(rw[if_pos (by decide +kernel)];kernel_rfl)|(rw[if_neg (by decide +kernel)];exact⟨rfl,rfl⟩))
  (fun os started H enc _ F=>by rw[OpenClaim.pre_eq_preRow];exact oY os started H enc F)
theorem pP(f:FuncId)(fn:Func)(bg:Tryz.pinned.checked.prog.funcNamed "straightedge/straightedgelaw12.GraphLimits" =some f)(e:Tryz.pinned.checked.prog.funcs[f]? =some fn):
  false=Tryz.pinned.checked.prog.looks []∧∀(j:Nat) t,fn.params[j]? =some t→Tryz.pinned.checked.prog.wantsStandIn t=false:=by
 obtain rfl:f=5:=Option.some.inj ((show Tryz.prog.funcNamed "straightedge/straightedgelaw12.GraphLimits" =some 5 by kernel_rfl).symm.trans bg) |>.symm;obtain rfl:fn=Tryz.f5:=(Option.some.inj (Tryz.func5.symm.trans e)).symm;refine⟨by kernel_rfl,fun j t d6=>?_⟩;have h:(Tryz.f5.params.toList.all fun u=> !Tryz.prog.wantsStandIn u)=true:=by kernel_rfl
 have:=List.all_eq_true.1 h t (by simpa using Array.mem_of_getElem? d6);simp only[Bool.not_eq_true'] at this;exact this
theorem graphLimits_holds:Rows.GraphLimitsUptoCardSaid:=
 Claim7.holds_tied_plain_at .later [] _ _ _ _ rq (fun _ h=>by cases h) (by kernel_rfl) (fun _ h=>by cases h) graphLimitsUpto_row_tie rfl ⟨rfl,rfl⟩ (by kernel_rfl) rfl pP (by kernel_rfl)
end Go.Proofs.YtgdnbfijkagodaaGreatDoor
