/- A part of the proof: no condition. -/
import Derived.Test.YtgdnbfijkagodaaGreatDoorA4
import Derived.Test.YtgdnbfijkagodaaGreatDoorA3
import Derived.KernelRfl
import Derived.Test.YtgdnbfijkagodaaGreatDoorProg
import Derived.Test.YtgdnbfijkagodaaGreatDoorA15
import Derived.Test.YtgdnbfijkagodaaGreatDoorRows
import Derived.MakeChecks
import Derived.OpenShut
import Derived.Test.YtgdnbfijkagodaaGreatDoorCards
import Derived.Eval
set_option linter.unusedSectionVars false
set_option linter.unusedSimpArgs false
set_option linter.unusedVariables false
namespace Go.gl
open Go.Ab Go.Proofs
noncomputable def aei:kN:=aev Tryz.prog 69
theorem agK:(match Tryz.f69.body with |some c=>dq (MF Tryz.prog) 41 false af3 c|none=>false)=true:=by kernel_rfl
theorem a6{f:Nat}{c:c4}{fn:Func}{r:List (Nat×c4)}(ar:Tryz.prog.funcs[f]? =some fn)(bV:∀x∈r,∃fn,Tryz.prog.funcs[x.1]? =some fn∧vE aei x.2 fn=true)(av:vE aei c fn=true:=by kernel_rfl):∀x∈(f,c)::r,∃fn,Tryz.prog.funcs[x.1]? =some fn∧vE aei x.2 fn=true:=List.forall_mem_cons.2 ⟨⟨fn,ar,av⟩,bV⟩
theorem Y6:Bg Tryz.prog 69 0:=by
 have h:=agK;cases e:Tryz.f69.body with
 |none=>rw[e] at h;cases h
 |some c=>rw[e] at h;exact Le (rQ Tryz.prog) Tryz.func69 e (by kernel_rfl) rfl rfl h
theorem afT:aei.pQ Tryz.prog:=by unfold aei;exact Sw _ _ Y6
set_option maxRecDepth 1000000
open Tryz in
theorem aej:EH Tryz.prog aei aL:=fun f e h=>by
 have all:∀x∈agN,∃fn,Tryz.prog.funcs[x.1]? =some fn∧vE aei x.2 fn=true:=
  a6 func3 (a6 func9 (a6 func10 (a6 func11 (a6 func12 (a6 func13 (a6 func14 (a6 func15 (a6 func16 (a6 func18 (a6 func19 (a6 func21 (a6 func22 (a6 func23 (a6 func25 (a6 func26 (a6 func30 (a6 func33 (a6 func34 (a6 func35 (a6 func36 (a6 func37 (a6 func38 (a6 func39 (a6 func40 (a6 func41 (a6 func42 (a6 func43 (a6 func44 (a6 func46 (a6 func47 (a6 func48 (a6 func49 (a6 func50 (a6 func62 (a6 func63 (a6 func67 (a6 func68 (a6 func69 (a6 func70 (a6 func71 (a6 func72 (a6 func73 (a6 func74 (a6 func75 (a6 func76 (a6 func77 (a6 func78 (a6 func84 (a6 func85 (a6 func86 (a6 func87 (a6 func88 (a6 func89 (a6 func90 (a6 func91 (a6 func92 (a6 func93 (a6 func94 (a6 func95 (a6 func96 (a6 func97 (a6 func98 (a6 func99 (a6 func102 (a6 func103 (a6 func104 (a6 func105 (a6 func106 (a6 func107 (a6 func108 (a6 func109 (a6 func110 (a6 func111 (a6 func112 (a6 func113 (a6 func114 (a6 func115 (a6 func116 (a6 func117 (a6 func118 (a6 func119 (a6 func120 (a6 func121 (a6 func122 (a6 func123 (a6 func124 (a6 func125 (a6 func127 (a6 func128 (a6 func129 (a6 func130 (a6 func131 (a6 func132 (a6 func133 (a6 func134 (a6 func135 (a6 func136 (a6 func137 (a6 func138 (a6 func139 (a6 func140 (a6 func141 (a6 func142 (a6 func143 (a6 func144 (a6 func145 (a6 func146 (a6 func147 (a6 func148 (a6 func149 (a6 func150 (a6 func151 (a6 func152 (a6 func153 (a6 func154 (a6 func155 (List.forall_mem_nil _)))))))))))))))))))))))))))))))))))))))))))))))))))))))))))))))))))))))))))))))))))))))))))))))))))))))))))))))))))))
 exact all _ (tf h)
theorem agL:Zv Tryz.prog aL Y5 aem:=⟨(fun _ _ _ _ _ h=>by cases h),(fun _ _ _ _ _ _ _ _ _ h=>by cases h)⟩
theorem El{w:World}{laid:List (String×DataW Unit)}(h:laidMet Tryz.prog laid w){d:DataW Unit}(hm:("internal/strconv.uint64pow10",d)∈laid):
  ∃cs fuel p,w.var? Tryz.prog "internal/strconv.uint64pow10" =some cs∧DataW.trod (fun _=>()) Tryz.prog w 0 (fun _=>true) false fuel 146 cs.toList=some (d,p):=by
 obtain⟨eb,bM,a5⟩:=h;clear a5
 induction laid generalizing eb with
 |nil=>cases hm
 |cons x r u=>
  obtain⟨n,e⟩:=x;simp only[DataW.LaidVars] at bM;obtain⟨g,t,cs,fuel,p,q,cb,ed,y,A,aU,_⟩:=bM;rcases List.mem_cons.1 hm with B|ji
  ·cases B;have dH:Tryz.prog.globalNamed "internal/strconv.uint64pow10" =some 0:=by kernel_rfl
   rw[dH] at cb;cases cb;have F:(Tryz.prog.globals[0]?).map (·.type)=some 146:=by kernel_rfl
   rw[F] at ed;cases ed;exact⟨cs,fuel,p,y,A⟩
  ·exact u ji q aU
theorem Se{w:World}{laid:List (String×DataW Unit)}(h:laidMet Tryz.prog laid w){d:DataW Unit}(hm:("internal/strconv.uint64pow10",d)∈laid)(cP:d=.agg (qs.map fun n=>.lit (.int .u64 n))):
  ∀i,i<20→w.cell? ⟨0,i,none⟩=some (.int .u64 (qs.getD i 0)):=by
 obtain⟨cs,fuel,p,e,A⟩:=El h hm;have hu:Tryz.prog.underlying 146=some (.array 20 120):=by kernel_rfl
 have B:Tryz.prog.underlying 120=some (.int .u64):=by kernel_rfl
 have aY:Tryz.prog.cellsOf 120=1:=by kernel_rfl
 obtain⟨xs,m,_,a5,bN,O,bL⟩:=DataW.trod_array hu A;intro i u;have ar:=bL i u;rw[aY,Nat.mul_one] at ar;have y:i<xs.length:=by omega
 rw[ei y] at ar;obtain⟨n,dH,F,_⟩:=DataW.trod_int B ar;have H:xs.map (·.1)=qs.map fun n=>DataW.lit (.int .u64 n):=by have:=congrArg Prod.fst a5;simp only at this;rw[cP] at this;exact(DataW.agg.inj this).symm
 have I:i<qs.length:=u;have r:(xs.map (·.1))[i]? =some (DataW.lit (.int .u64 (qs.getD i 0))):=by rw[H];simp [List.getD,I]
 rw[g6,ei y,F] at r;simp only[ej,bm,DataW.lit.injEq,Lit.int.injEq,true_and] at r;have J:cs.toList[i]? =some (.int .u64 n):=by have:=congrArg (fun l=>l[0]?) dH;simpa [List.getElem?_take,List.getElem?_drop] using this
 have K:cs[i]? =some (.int .u64 n):=by simpa using J
 simp only[World.var?] at e;have M:Tryz.prog.globalNamed "internal/strconv.uint64pow10" =some 0:=by kernel_rfl
 rw[M] at e;simp only[fF] at e;unfold World.cell?;simp only;split at e
 ·rename_i c t2 U N;cases e;rw[N];simp [K,r]
 ·cases e
theorem afU{w:World}{laid:List (String×DataW Unit)}(h:laidMet Tryz.prog laid w){d:DataW Unit}(hm:("internal/strconv.uint64pow10",d)∈laid)(cP:d=.agg (qs.map fun n=>.lit (.int .u64 n))):ko (fB w) Y5:=fun n=>by
 have fz:=Se h hm cP;unfold Y5;cases dm:Nat.beq n 0 with
 |false=>exact⟨.dead _,rfl⟩
 |true=>
  have:=dh dm;subst this;simp only[bH];refine⟨.bh iT _ (fun j=>.int .u64 (qs.getD j 0)) rfl (fun j cX=>?_) (fun j c aY=>?_),rfl⟩
  ·have u2:j<20:=cX;have e:(⟨0,0,none⟩:Addr).add j=⟨0,j,none⟩:=by
    unfold Addr.add;split
    ·rename_i g8;subst g8;rfl
    ·simp
   rw[e];simp only[fB,if_true];exact fz j u2
  ·have cX:=(ec.1 aY).1;have u2:j<20:=cX;have r:j<qs.length:=cX
   have:iT[j]? =some (.int .u64 (qs.getD j 0)):=by unfold iT;simp [List.getD,r]
   rw[this] at aY;cases aY;exact .int _ _
theorem mixed:Tryz.prog.follows .mixedOrders=true:=Tryz.checked.mixed
theorem agM:∃s',aA aL Y5 aem 9 [] {own:=[],up:=[],ro:=[]}=.ok (.bool true) s':=by
 have h:=af4;rw[aX.AV] at h;unfold afS at h;split at h
 ·rename_i b s' e;subst h;exact⟨s',om aL Y5 aem (fun h=>by cases h) e⟩
 ·cases h
end Go.gl
