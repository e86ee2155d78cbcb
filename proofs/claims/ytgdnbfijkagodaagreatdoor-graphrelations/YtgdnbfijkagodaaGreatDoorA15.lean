/- A part of the proof: no condition. -/
import Derived.Test.YtgdnbfijkagodaaGreatDoorA4
import Derived.Test.YtgdnbfijkagodaaGreatDoorA3
import Derived.KernelRfl
import Derived.Test.YtgdnbfijkagodaaGreatDoorProg
import Derived.Test.YtgdnbfijkagodaaGreatDoorA14
import Derived.Test.YtgdnbfijkagodaaGreatDoorRows
import Derived.MakeChecks
import Derived.OpenShut
import Derived.Test.YtgdnbfijkagodaaGreatDoorCards
import Derived.Eval
set_option linter.unusedSectionVars false
set_option linter.unusedSimpArgs false
set_option linter.unusedVariables false
namespace Go.gR
open Go.Ab Go.Proofs
noncomputable def aaq:kD:=aaC Tryz.prog 69
theorem ac3:(match Tryz.f69.body with |some c=>dn (JZ Tryz.prog) 41 false ace c|none=>false)=true:=by kernel_rfl
theorem a2{f:Nat}{c:c0}{fn:Func}{r:List (Nat×c0)}(ar:Tryz.prog.funcs[f]? =some fn)(bO:∀x∈r,∃fn,Tryz.prog.funcs[x.1]? =some fn∧u7 aaq x.2 fn=true)(av:u7 aaq c fn=true:=by kernel_rfl):∀x∈(f,c)::r,∃fn,Tryz.prog.funcs[x.1]? =some fn∧u7 aaq x.2 fn=true:=List.forall_mem_cons.2 ⟨⟨fn,ar,av⟩,bO⟩
theorem Vj:zM Tryz.prog 69 0:=by
 have h:=ac3;cases e:Tryz.f69.body with
 |none=>rw[e] at h;cases h
 |some c=>rw[e] at h;exact IC (rp Tryz.prog) Tryz.func69 e (by kernel_rfl) rfl rfl h
theorem ab2:aaq.pn Tryz.prog:=by unfold aaq;exact OV _ _ Vj
set_option maxRecDepth 1000000
open Tryz in
theorem aar:C5 Tryz.prog aaq aR:=fun f e h=>by
 have all:∀x∈ac6,∃fn,Tryz.prog.funcs[x.1]? =some fn∧u7 aaq x.2 fn=true:=
  a2 func6 (a2 func9 (a2 func10 (a2 func11 (a2 func13 (a2 func14 (a2 func15 (a2 func16 (a2 func18 (a2 func19 (a2 func20 (a2 func21 (a2 func22 (a2 func23 (a2 func25 (a2 func26 (a2 func30 (a2 func33 (a2 func34 (a2 func35 (a2 func36 (a2 func37 (a2 func38 (a2 func39 (a2 func40 (a2 func41 (a2 func42 (a2 func43 (a2 func44 (a2 func46 (a2 func47 (a2 func48 (a2 func49 (a2 func50 (a2 func62 (a2 func63 (a2 func67 (a2 func68 (a2 func69 (a2 func70 (a2 func71 (a2 func72 (a2 func73 (a2 func74 (a2 func75 (a2 func76 (a2 func77 (a2 func78 (a2 func84 (a2 func85 (a2 func86 (a2 func87 (a2 func88 (a2 func89 (a2 func90 (a2 func91 (a2 func92 (a2 func93 (a2 func94 (a2 func95 (a2 func96 (a2 func97 (a2 func98 (a2 func99 (a2 func102 (a2 func103 (a2 func104 (a2 func105 (a2 func106 (a2 func107 (a2 func108 (a2 func109 (a2 func110 (a2 func111 (a2 func112 (a2 func113 (a2 func114 (a2 func115 (a2 func116 (a2 func117 (a2 func118 (a2 func119 (a2 func120 (a2 func121 (a2 func122 (a2 func123 (a2 func124 (a2 func125 (a2 func127 (a2 func128 (a2 func129 (a2 func130 (a2 func131 (a2 func132 (a2 func133 (a2 func134 (a2 func135 (a2 func136 (a2 func137 (a2 func138 (a2 func139 (a2 func140 (a2 func141 (a2 func142 (a2 func143 (a2 func144 (a2 func145 (a2 func146 (a2 func147 (a2 func148 (a2 func149 (a2 func150 (a2 func151 (a2 func152 (a2 func153 (a2 func154 (a2 func155 (List.forall_mem_nil _)))))))))))))))))))))))))))))))))))))))))))))))))))))))))))))))))))))))))))))))))))))))))))))))))))))))))))))))))))))
 exact all _ (sI h)
theorem ac4:VJ Tryz.prog aR Vi aat:=⟨(fun _ _ _ _ _ h=>by cases h),(fun _ _ _ _ _ _ _ _ _ h=>by cases h)⟩
theorem CK{w:World}{laid:List (String×DataW Unit)}(h:laidMet Tryz.prog laid w){d:DataW Unit}(hm:("internal/strconv.uint64pow10",d)∈laid):
  ∃cs fuel p,w.var? Tryz.prog "internal/strconv.uint64pow10" =some cs∧DataW.trod (fun _=>()) Tryz.prog w 0 (fun _=>true) false fuel 146 cs.toList=some (d,p):=by
 obtain⟨ea,bJ,a9⟩:=h;clear a9
 induction laid generalizing ea with
 |nil=>cases hm
 |cons x r u=>
  obtain⟨n,e⟩:=x;simp only[DataW.LaidVars] at bJ;obtain⟨g,t,cs,fuel,p,q,cB,dU,y,A,aQ,_⟩:=bJ;rcases List.mem_cons.1 hm with B|jo
  ·cases B;have dM:Tryz.prog.globalNamed "internal/strconv.uint64pow10" =some 0:=by kernel_rfl
   rw[dM] at cB;cases cB;have F:(Tryz.prog.globals[0]?).map (·.type)=some 146:=by kernel_rfl
   rw[F] at dU;cases dU;exact⟨cs,fuel,p,y,A⟩
  ·exact u jo q aQ
theorem OD{w:World}{laid:List (String×DataW Unit)}(h:laidMet Tryz.prog laid w){d:DataW Unit}(hm:("internal/strconv.uint64pow10",d)∈laid)(cR:d=.agg (pY.map fun n=>.lit (.int .u64 n))):
  ∀i,i<20→w.cell? ⟨0,i,none⟩=some (.int .u64 (pY.getD i 0)):=by
 obtain⟨cs,fuel,p,e,A⟩:=CK h hm;have hu:Tryz.prog.underlying 146=some (.array 20 120):=by kernel_rfl
 have B:Tryz.prog.underlying 120=some (.int .u64):=by kernel_rfl
 have a1:Tryz.prog.cellsOf 120=1:=by kernel_rfl
 obtain⟨xs,m,_,a9,bK,N,bY⟩:=DataW.trod_array hu A;intro i u;have ar:=bY i u;rw[a1,Nat.mul_one] at ar;have y:i<xs.length:=by omega
 rw[eI y] at ar;obtain⟨n,dM,F,_⟩:=DataW.trod_int B ar;have H:xs.map (·.1)=pY.map fun n=>DataW.lit (.int .u64 n):=by have:=congrArg Prod.fst a9;simp only at this;rw[cR] at this;exact(DataW.agg.inj this).symm
 have I:i<pY.length:=u;have r:(xs.map (·.1))[i]? =some (DataW.lit (.int .u64 (pY.getD i 0))):=by rw[H];simp [List.getD,I]
 rw[iJ,eI y,F] at r;simp only[ep,bj,DataW.lit.injEq,Lit.int.injEq,true_and] at r;have J:cs.toList[i]? =some (.int .u64 n):=by have:=congrArg (fun l=>l[0]?) dM;simpa [List.getElem?_take,List.getElem?_drop] using this
 have K:cs[i]? =some (.int .u64 n):=by simpa using J
 simp only[World.var?] at e;have L:Tryz.prog.globalNamed "internal/strconv.uint64pow10" =some 0:=by kernel_rfl
 rw[L] at e;simp only[f0] at e;unfold World.cell?;simp only;split at e
 ·rename_i c t2 O M;cases e;rw[M];simp [K,r]
 ·cases e
theorem ab3{w:World}{laid:List (String×DataW Unit)}(h:laidMet Tryz.prog laid w){d:DataW Unit}(hm:("internal/strconv.uint64pow10",d)∈laid)(cR:d=.agg (pY.map fun n=>.lit (.int .u64 n))):j9 (fv w) Vi:=fun n=>by
 have fp:=OD h hm cR;unfold Vi;cases dk:Nat.beq n 0 with
 |false=>exact⟨.dead _,rfl⟩
 |true=>
  have:=dj dk;subst this;simp only[bX];refine⟨.bP iN _ (fun j=>.int .u64 (pY.getD j 0)) rfl (fun j df=>?_) (fun j c a1=>?_),rfl⟩
  ·have ux:j<20:=df;have e:(⟨0,0,none⟩:Addr).add j=⟨0,j,none⟩:=by
    unfold Addr.add;split
    ·rename_i hC;subst hC;rfl
    ·simp
   rw[e];simp only[fv,if_true];exact fp j ux
  ·have df:=(eA.1 a1).1;have ux:j<20:=df;have r:j<pY.length:=df
   have:iN[j]? =some (.int .u64 (pY.getD j 0)):=by unfold iN;simp [List.getD,r]
   rw[this] at a1;cases a1;exact .int _ _
theorem mixed:Tryz.prog.follows .mixedOrders=true:=Tryz.checked.mixed
theorem ac5:∃s',aP aR Vi aat 9 [] {own:=[],up:=[],ro:=[]}=.ok (.bool true) s':=by
 have h:=acf;rw[aU.zB] at h;unfold ab1 at h;split at h
 ·rename_i b s' e;subst h;exact⟨s',mm aR Vi aat (fun h=>by cases h) e⟩
 ·cases h
end Go.gR
