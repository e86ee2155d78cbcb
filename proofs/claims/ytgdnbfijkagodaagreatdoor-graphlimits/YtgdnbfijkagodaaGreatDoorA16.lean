/- A part of the proof: no condition. -/
import Derived.Test.YtgdnbfijkagodaaGreatDoorA4
import Derived.Test.YtgdnbfijkagodaaGreatDoorA3
import Derived.KernelRfl
import Derived.Test.YtgdnbfijkagodaaGreatDoorProg
import Derived.Test.YtgdnbfijkagodaaGreatDoorA15
import Derived.Test.YtgdnbfijkagodaaGreatDoorRows
import Derived.MakeChecks
import Derived.OpenShut
import Derived.Test.YtgdnbfijkagodaaGreatDoorCards
import Derived.Eval
set_option linter.unusedSectionVars false
set_option linter.unusedSimpArgs false
set_option linter.unusedVariables false
namespace Go.f0
open Go.Ab Go.Proofs
noncomputable def WR:ki:=W8 Tryz.prog 69
theorem ZI:(match Tryz.f69.body with |some c=>dd (Hv Tryz.prog) 41 false YP c|none=>false)=true:=by kernel_rfl
theorem aY{f:Nat}{c:dc}{fn:Func}{r:List (Nat×dc)}(ar:Tryz.prog.funcs[f]? =some fn)(ch:∀x∈r,∃fn,Tryz.prog.funcs[x.1]? =some fn∧uk WR x.2 fn=true)(ay:uk WR c fn=true:=by kernel_rfl):∀x∈(f,c)::r,∃fn,Tryz.prog.funcs[x.1]? =some fn∧uk WR x.2 fn=true:=List.forall_mem_cons.2 ⟨⟨fn,ar,ay⟩,ch⟩
theorem R7:yP Tryz.prog 69 0:=by
 have h:=ZI;cases e:Tryz.f69.body with
 |none=>rw[e] at h;cases h
 |some c=>rw[e] at h;exact Gn (qK Tryz.prog) Tryz.func69 e (by kernel_rfl) rfl rfl h
theorem YD:WR.oO Tryz.prog:=by unfold WR;exact LV _ _ R7
set_option maxRecDepth 1000000
open Tryz in
theorem WS:BU Tryz.prog WR a4:=fun f e h=>by
 have all:∀x∈ZM,∃fn,Tryz.prog.funcs[x.1]? =some fn∧uk WR x.2 fn=true:=
  aY func5 (aY func9 (aY func11 (aY func13 (aY func14 (aY func15 (aY func16 (aY func18 (aY func19 (aY func21 (aY func22 (aY func23 (aY func25 (aY func26 (aY func30 (aY func33 (aY func37 (aY func38 (aY func39 (aY func40 (aY func41 (aY func42 (aY func43 (aY func44 (aY func46 (aY func47 (aY func48 (aY func49 (aY func50 (aY func62 (aY func63 (aY func67 (aY func68 (aY func69 (aY func70 (aY func71 (aY func72 (aY func73 (aY func74 (aY func75 (aY func76 (aY func77 (aY func78 (aY func84 (aY func85 (aY func86 (aY func87 (aY func88 (aY func89 (aY func90 (aY func91 (aY func92 (aY func93 (aY func94 (aY func95 (aY func96 (aY func97 (aY func98 (aY func99 (aY func102 (aY func103 (aY func104 (aY func105 (aY func106 (aY func107 (aY func108 (aY func109 (aY func110 (aY func111 (aY func112 (aY func113 (aY func114 (aY func115 (aY func116 (aY func117 (aY func118 (aY func119 (aY func120 (aY func121 (aY func122 (aY func123 (aY func124 (aY func125 (aY func127 (aY func128 (aY func129 (aY func130 (aY func131 (aY func132 (aY func133 (aY func134 (aY func135 (aY func136 (aY func137 (aY func138 (aY func139 (aY func140 (aY func141 (aY func142 (aY func143 (aY func144 (aY func145 (aY func146 (aY func147 (aY func148 (aY func149 (aY func150 (aY func151 (aY func152 (aY func153 (aY func154 (aY func155 (List.forall_mem_nil _))))))))))))))))))))))))))))))))))))))))))))))))))))))))))))))))))))))))))))))))))))))))))))))))))))))))))))))))
 exact all _ (r4 h)
theorem ZJ:Sv Tryz.prog a4 R6 W0:=⟨(fun _ _ _ _ _ h=>by cases h),(fun _ _ _ _ _ _ _ _ _ h=>by cases h)⟩
theorem By{w:World}{laid:List (String×DataW Unit)}(h:laidMet Tryz.prog laid w){d:DataW Unit}(hm:("internal/strconv.uint64pow10",d)∈laid):
  ∃cs fuel p,w.var? Tryz.prog "internal/strconv.uint64pow10" =some cs∧DataW.trod (fun _=>()) Tryz.prog w 0 (fun _=>true) false fuel 146 cs.toList=some (d,p):=by
 obtain⟨eo,bD,aZ⟩:=h;clear aZ
 induction laid generalizing eo with
 |nil=>cases hm
 |cons x r y=>
  obtain⟨n,e⟩:=x;simp only[DataW.LaidVars] at bD;obtain⟨g,t,cs,fuel,p,q,cE,d6,A,B,aJ,_⟩:=bD;rcases List.mem_cons.1 hm with F|jJ
  ·cases F;have dI:Tryz.prog.globalNamed "internal/strconv.uint64pow10" =some 0:=by kernel_rfl
   rw[dI] at cE;cases cE;have H:(Tryz.prog.globals[0]?).map (·.type)=some 146:=by kernel_rfl
   rw[H] at d6;cases d6;exact⟨cs,fuel,p,A,B⟩
  ·exact y jJ q aJ
theorem LA{w:World}{laid:List (String×DataW Unit)}(h:laidMet Tryz.prog laid w){d:DataW Unit}(hm:("internal/strconv.uint64pow10",d)∈laid)(cF:d=.agg (pn.map fun n=>.lit (.int .u64 n))):
  ∀i,i<20→w.cell? ⟨0,i,none⟩=some (.int .u64 (pn.getD i 0)):=by
 obtain⟨cs,fuel,p,e,A⟩:=By h hm;have hu:Tryz.prog.underlying 146=some (.array 20 120):=by kernel_rfl
 have B:Tryz.prog.underlying 120=some (.int .u64):=by kernel_rfl
 have aW:Tryz.prog.cellsOf 120=1:=by kernel_rfl
 obtain⟨xs,m,_,aZ,bO,U,bN⟩:=DataW.trod_array hu A;intro i r;have ar:=bN i r;rw[aW,Nat.mul_one] at ar;have y:i<xs.length:=by omega
 rw[fB y] at ar;obtain⟨n,dI,F,_⟩:=DataW.trod_int B ar;have H:xs.map (·.1)=pn.map fun n=>DataW.lit (.int .u64 n):=by have:=congrArg Prod.fst aZ;simp only at this;rw[cF] at this;exact(DataW.agg.inj this).symm
 have I:i<pn.length:=r;have q:(xs.map (·.1))[i]? =some (DataW.lit (.int .u64 (pn.getD i 0))):=by rw[H];simp [List.getD,I]
 rw[iy,fB y,F] at q;simp only[eb,a8,DataW.lit.injEq,Lit.int.injEq,true_and] at q;have J:cs.toList[i]? =some (.int .u64 n):=by have:=congrArg (fun l=>l[0]?) dI;simpa [List.getElem?_take,List.getElem?_drop] using this
 have M:cs[i]? =some (.int .u64 n):=by simpa using J
 simp only[World.var?] at e;have N:Tryz.prog.globalNamed "internal/strconv.uint64pow10" =some 0:=by kernel_rfl
 rw[N] at e;simp only[fZ] at e;unfold World.cell?;simp only;split at e
 ·rename_i c t2 V O;cases e;rw[O];simp [M,q]
 ·cases e
theorem YE{w:World}{laid:List (String×DataW Unit)}(h:laidMet Tryz.prog laid w){d:DataW Unit}(hm:("internal/strconv.uint64pow10",d)∈laid)(cF:d=.agg (pn.map fun n=>.lit (.int .u64 n))):jR (fe w) R6:=fun n=>by
 have gb:=LA h hm cF;unfold R6;cases df:Nat.beq n 0 with
 |false=>exact⟨.dead _,rfl⟩
 |true=>
  have:=c4 df;subst this;simp only[ci];refine⟨.bU kE _ (fun j=>.int .u64 (pn.getD j 0)) rfl (fun j da=>?_) (fun j c aW=>?_),rfl⟩
  ·have tB:j<20:=da;have e:(⟨0,0,none⟩:Addr).add j=⟨0,j,none⟩:=by
    unfold Addr.add;split
    ·rename_i hr;subst hr;rfl
    ·simp
   rw[e];simp only[fe,if_true];exact gb j tB
  ·have da:=(ez.1 aW).1;have tB:j<20:=da;have p:j<pn.length:=da
   have:kE[j]? =some (.int .u64 (pn.getD j 0)):=by unfold kE;simp [List.getD,p]
   rw[this] at aW;cases aW;exact .int _ _
theorem mixed:Tryz.prog.follows .mixedOrders=true:=Tryz.checked.mixed
theorem ZK:∃s',aX a4 R6 W0 9 [] {own:=[],up:=[],ro:=[]}=.ok (.bool true) s':=by
 have h:=YQ;rw[aN.yC] at h;unfold YC at h;split at h
 ·rename_i b s' e;subst h;exact⟨s',nF a4 R6 W0 (fun h=>by cases h) e⟩
 ·cases h
end Go.f0
