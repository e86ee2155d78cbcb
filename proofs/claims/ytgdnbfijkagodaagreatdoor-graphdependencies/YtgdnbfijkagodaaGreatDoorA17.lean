/- GraphDependencies: for every reading of its arguments of bulk at most 1048576 the law answers true, and its arguments read as they did. -/
import Derived.Test.YtgdnbfijkagodaaGreatDoorA13
import Derived.Test.YtgdnbfijkagodaaGreatDoorA14
import Derived.Test.YtgdnbfijkagodaaGreatDoorA16
import Derived.Test.YtgdnbfijkagodaaGreatDoorCards
import Derived.Test.YtgdnbfijkagodaaGreatDoorTie
import Derived.ProofKit
import Derived.OpenShut
import Derived.LaidMore
import Derived.Lay
import Derived.SevenTiedAt
import Derived.Stop.Joined
import Derived.Deep.DeepHandedRow
set_option linter.unusedSectionVars false
set_option linter.unusedSimpArgs false
namespace Go.Proofs.YtgdnbfijkagodaaGreatDoor
open Go.ChangeShapes Go.WideShapes Go.ChangeAt Go.RowKit Go.Ab Go.gl
theorem own:ownKnob Tryz.prog.godebug=none:=by kernel_rfl
theorem Sf{W:World}(e:laidMetH Tryz.prog Rows.graphDependenciesUptoRow.laid W):ko (fB W) Y5:=by rw[MakeChecks.laidMetH_plain _ _ _ (by kernel_rfl)] at e;exact afU (d:=Rows.laid_internal_strconv_uint64pow10) e (by simp [Rows.graphDependenciesUptoRow]) (by kernel_rfl)
theorem Y7{W:World}{xs:List Value}{H:Type}{d1:DataW H}(r:laidMetH Tryz.prog Rows.graphDependenciesUptoRow.laid W)(a5:eu (fB W) 1 [BE (.bW mR) d1] xs)(u:jY (.bW mR) d1)(cZ:Rows.uptoSmall H [d1]=true):Calls Tryz.prog 3 xs.toArray W fun e w'=>e=.returned (.bool true)∧Ab.Left W w':=by have y:Rows.uptoBulkAll [d1]≤1048576:=of_decide_eq_true cZ;simp only[Rows.uptoBulkAll] at y;obtain⟨eb,A,dH,B,F,I⟩:=Mf u (by omega);have aU:=Go.gl.aeh Y5 aem rfl agM eb A B I F {own:=[],up:=[],ro:=[]};rw[dH] at a5;obtain⟨n,dm⟩:=pn aL Y5 aem (fun h=>by cases h) aU;exact BC mixed afT aej agL dm (fun h=>by have J:some lz=none:=h;cases J) (Sf r) a5
set_option maxRecDepth 100000 in
theorem mX(os:Os)(started:os.Started)(H:Type)(enc:TypeId×Value→H)(F:Stop.Interp):
  ReturnsInHanded {} Tryz.checked os 3 .any ((Rows.OpenSpec.upto Rows.graphDependenciesSpec).preRow enc Tryz.prog Tryz.f3 Rows.graphDependenciesUptoRow.domain false Rows.graphDependenciesUptoRow.laid) (((Rows.OpenSpec.upto Rows.graphDependenciesSpec).at F).post enc Tryz.prog Tryz.f3 false true false false):=by
 refine returnsInHanded_of_row (C:=Tryz.checked) (s:=Rows.OpenSpec.upto Rows.graphDependenciesSpec) own started (by kernel_rfl) Tryz.func3
  (witness_row_at (enc:=enc) (C:=Tryz.checked) false (World.laidAll Tryz.prog os Rows.graphDependenciesUptoRow.laid) #[.slice none 0 0] (World.laidAll_os _ _ _) (by kernel_rfl) (by kernel_rfl) (by kernel_rfl)
   (OpenSpec.preRow_of_cond (x:=([.nil],[],[])) 8 (by kernel_rfl) (by kernel_rfl) (fun k cZ=>by cases cZ;kernel_rfl) (by kernel_rfl)
    (by rw[MakeChecks.laidMetH_plain _ _ _ (by kernel_rfl)];exact laidMet_laidAll _ (by kernel_rfl) (by kernel_rfl)))) ?_
 intro W base args h9 gs before r h _ u _ y _ _;have A:=h;obtain⟨p,q,B,I,N,_,_⟩:=h;obtain⟨a5,br⟩:=tE 1 [.bW mR] Tryz.f3.params.toList args.toList h9 p (by kernel_rfl) (fun j t v ed bM=>r j t v (by simpa using ed) (by simpa using bM)) B;rw[lI] at br;obtain⟨d1,O,rfl,J,br⟩:=br;rw[lI] at br;subst br;obtain⟨rfl,rfl⟩:=trodVars_none I;have run:=Y7 (W:=W) (xs:=args.toList) (d1:=d1) y a5 J (u _ rfl);have run':Calls Tryz.prog 3 args W fun e w'=>e=.returned (.bool true)∧Ab.Left W w':=run
 refine run'.mono fun e U ⟨he,K⟩=>?_
 subst he;refine⟨_,rfl,EP (s:=Rows.graphDependenciesSpec) (tb:=4) A rfl (fun l bN=>?_) (by kernel_rfl) (by kernel_rfl) (by kernel_rfl) ?_ K⟩
 ·have fz:Tryz.f3.params.size=1:=by kernel_rfl
  rw[fz] at bN
  match l,bN with
  |[iC],_=>rfl
 ·have M:(Tryz.f3.params.toList.all fun t=>Tryz.prog.readableRec t&&decide (t<Tryz.prog.types.size))=true:=by kernel_rfl
  intro t ed
  have:=List.all_eq_true.1 M t ed;simp only[bl,b8] at this;exact this
theorem n0:Rows.GraphDependenciesUptoSaid:=
 OpenClaim.holds_of_cond 3 Tryz.f3 rfl rfl rfl rfl rfl rfl rfl ⟨rfl,rfl,rfl,rfl,rfl⟩ rfl rfl rfl rfl rfl (by kernel_rfl) Tryz.func3 (by kernel_rfl)
  (of_decide_eq_true (by kernel_rfl)) (by unfold Func.isWrapper;first|(rw[if_pos (by decide +kernel)];kernel_rfl)|(rw[if_neg (by decide +kernel)];exact⟨rfl,rfl⟩))
  (fun os started H enc _ F=>by rw[OpenClaim.pre_eq_preRow];exact mX os started H enc F)
theorem nC(f:FuncId)(fn:Func)(br:Tryz.pinned.checked.prog.funcNamed "straightedge/straightedgelaw12.GraphDependencies" =some f)(e:Tryz.pinned.checked.prog.funcs[f]? =some fn):
  false=Tryz.pinned.checked.prog.looks []∧∀(j:Nat) t,fn.params[j]? =some t→Tryz.pinned.checked.prog.wantsStandIn t=false:=by
 obtain rfl:f=3:=Option.some.inj ((show Tryz.prog.funcNamed "straightedge/straightedgelaw12.GraphDependencies" =some 3 by kernel_rfl).symm.trans br) |>.symm;obtain rfl:fn=Tryz.f3:=(Option.some.inj (Tryz.func3.symm.trans e)).symm;refine⟨by kernel_rfl,fun j t ed=>?_⟩;have h:(Tryz.f3.params.toList.all fun u=> !Tryz.prog.wantsStandIn u)=true:=by kernel_rfl
 have:=List.all_eq_true.1 h t (by simpa using Array.mem_of_getElem? ed);simp only[Bool.not_eq_true'] at this;exact this
theorem graphDependencies_holds:Rows.GraphDependenciesUptoCardSaid:=
 Claim7.holds_tied_plain_at .later [] _ _ _ _ n0 (fun _ h=>by cases h) (by kernel_rfl) (fun _ h=>by cases h) graphDependenciesUpto_row_tie rfl ⟨rfl,rfl⟩ (by kernel_rfl) rfl nC (by kernel_rfl)
end Go.Proofs.YtgdnbfijkagodaaGreatDoor
