/- A part of the proof: no condition. -/
import Derived.Test.YtgdnbfijkagodaaGreatDoorA4
import Derived.Test.YtgdnbfijkagodaaGreatDoorA3
import Derived.KernelRfl
import Derived.Test.YtgdnbfijkagodaaGreatDoorProg
import Derived.Test.YtgdnbfijkagodaaGreatDoorA15
import Derived.Test.YtgdnbfijkagodaaGreatDoorRows
import Derived.MakeChecks
import Derived.OpenShut
import Derived.Test.YtgdnbfijkagodaaGreatDoorCards
import Derived.Eval
set_option linter.unusedSectionVars false
set_option linter.unusedSimpArgs false
set_option linter.unusedVariables false
namespace Go.gw
open Go.Ab Go.Proofs
noncomputable def abe:kO:=abr Tryz.prog 69
theorem adV:(match Tryz.f69.body with |some c=>dr (Kt Tryz.prog) 41 false ac6 c|none=>false)=true:=by kernel_rfl
theorem a4{f:Nat}{c:c0}{fn:Func}{r:List (Nat×c0)}(au:Tryz.prog.funcs[f]? =some fn)(b3:∀x∈r,∃fn,Tryz.prog.funcs[x.1]? =some fn∧u5 abe x.2 fn=true)(az:u5 abe c fn=true:=by kernel_rfl):∀x∈(f,c)::r,∃fn,Tryz.prog.funcs[x.1]? =some fn∧u5 abe x.2 fn=true:=List.forall_mem_cons.2 ⟨⟨fn,au,az⟩,b3⟩
theorem We:z2 Tryz.prog 69 0:=by
 have h:=adV;cases e:Tryz.f69.body with
 |none=>rw[e] at h;cases h
 |some c=>rw[e] at h;exact I4 (rz Tryz.prog) Tryz.func69 e (by kernel_rfl) rfl rfl h
theorem acW:abe.pw Tryz.prog:=by unfold abe;exact PK _ _ We
set_option maxRecDepth 1000000
open Tryz in
theorem abf:Dk Tryz.prog abe aK:=fun f e h=>by
 have all:∀x∈adY,∃fn,Tryz.prog.funcs[x.1]? =some fn∧u5 abe x.2 fn=true:=
  a4 func7 (a4 func9 (a4 func10 (a4 func11 (a4 func13 (a4 func14 (a4 func15 (a4 func16 (a4 func17 (a4 func18 (a4 func19 (a4 func21 (a4 func22 (a4 func23 (a4 func24 (a4 func25 (a4 func26 (a4 func30 (a4 func33 (a4 func34 (a4 func35 (a4 func36 (a4 func37 (a4 func38 (a4 func39 (a4 func40 (a4 func41 (a4 func42 (a4 func43 (a4 func44 (a4 func45 (a4 func46 (a4 func47 (a4 func48 (a4 func49 (a4 func50 (a4 func62 (a4 func63 (a4 func67 (a4 func68 (a4 func69 (a4 func70 (a4 func71 (a4 func72 (a4 func73 (a4 func74 (a4 func75 (a4 func76 (a4 func77 (a4 func78 (a4 func84 (a4 func85 (a4 func86 (a4 func87 (a4 func88 (a4 func89 (a4 func90 (a4 func91 (a4 func92 (a4 func93 (a4 func94 (a4 func95 (a4 func96 (a4 func97 (a4 func98 (a4 func99 (a4 func102 (a4 func103 (a4 func104 (a4 func105 (a4 func106 (a4 func107 (a4 func108 (a4 func109 (a4 func110 (a4 func111 (a4 func112 (a4 func113 (a4 func114 (a4 func115 (a4 func116 (a4 func117 (a4 func118 (a4 func119 (a4 func120 (a4 func121 (a4 func122 (a4 func123 (a4 func124 (a4 func125 (a4 func127 (a4 func128 (a4 func129 (a4 func130 (a4 func131 (a4 func132 (a4 func133 (a4 func134 (a4 func135 (a4 func136 (a4 func137 (a4 func138 (a4 func139 (a4 func140 (a4 func141 (a4 func142 (a4 func143 (a4 func144 (a4 func145 (a4 func146 (a4 func147 (a4 func148 (a4 func149 (a4 func150 (a4 func151 (a4 func152 (a4 func153 (a4 func154 (a4 func155 (List.forall_mem_nil _)))))))))))))))))))))))))))))))))))))))))))))))))))))))))))))))))))))))))))))))))))))))))))))))))))))))))))))))))))))))
 exact all _ (sK h)
theorem adW:WH Tryz.prog aK Wd abi:=⟨(fun _ _ _ _ _ h=>by cases h),(fun _ _ _ _ _ _ _ _ _ h=>by cases h)⟩
theorem CY{w:World}{laid:List (String×DataW Unit)}(h:laidMet Tryz.prog laid w){d:DataW Unit}(hm:("internal/strconv.uint64pow10",d)∈laid):
  ∃cs fuel p,w.var? Tryz.prog "internal/strconv.uint64pow10" =some cs∧DataW.trod (fun _=>()) Tryz.prog w 0 (fun _=>true) false fuel 146 cs.toList=some (d,p):=by
 obtain⟨ec,bO,a8⟩:=h;clear a8
 induction laid generalizing ec with
 |nil=>cases hm
 |cons x r u=>
  obtain⟨n,e⟩:=x;simp only[DataW.LaidVars] at bO;obtain⟨g,t,cs,fuel,p,q,cC,eh,y,A,aT,_⟩:=bO;rcases List.mem_cons.1 hm with B|kf
  ·cases B;have dU:Tryz.prog.globalNamed "internal/strconv.uint64pow10" =some 0:=by kernel_rfl
   rw[dU] at cC;cases cC;have F:(Tryz.prog.globals[0]?).map (·.type)=some 146:=by kernel_rfl
   rw[F] at eh;cases eh;exact⟨cs,fuel,p,y,A⟩
  ·exact u kf q aT
theorem Pt{w:World}{laid:List (String×DataW Unit)}(h:laidMet Tryz.prog laid w){d:DataW Unit}(hm:("internal/strconv.uint64pow10",d)∈laid)(cS:d=.agg (p6.map fun n=>.lit (.int .u64 n))):
  ∀i,i<20→w.cell? ⟨0,i,none⟩=some (.int .u64 (p6.getD i 0)):=by
 obtain⟨cs,fuel,p,e,y⟩:=CY h hm;have hu:Tryz.prog.underlying 146=some (.array 20 120):=by kernel_rfl
 have A:Tryz.prog.underlying 120=some (.int .u64):=by kernel_rfl
 have a3:Tryz.prog.cellsOf 120=1:=by kernel_rfl
 obtain⟨xs,m,_,a8,bK,M,bX⟩:=DataW.trod_array hu y;intro i r;have au:=bX i r;rw[a3,Nat.mul_one] at au;have u:i<xs.length:=by omega
 rw[eP u] at au;obtain⟨n,dU,B,_⟩:=DataW.trod_int A au;have F:xs.map (·.1)=p6.map fun n=>DataW.lit (.int .u64 n):=by have:=congrArg Prod.fst a8;simp only at this;rw[cS] at this;exact(DataW.agg.inj this).symm
 have H:i<p6.length:=r;have q:(xs.map (·.1))[i]? =some (DataW.lit (.int .u64 (p6.getD i 0))):=by rw[F];simp [List.getD,H]
 rw[hy,eP u,B] at q;simp only[ew,bj,DataW.lit.injEq,Lit.int.injEq,true_and] at q;have I:cs.toList[i]? =some (.int .u64 n):=by have:=congrArg (fun l=>l[0]?) dU;simpa [List.getElem?_take,List.getElem?_drop] using this
 have J:cs[i]? =some (.int .u64 n):=by simpa using I
 simp only[World.var?] at e;have K:Tryz.prog.globalNamed "internal/strconv.uint64pow10" =some 0:=by kernel_rfl
 rw[K] at e;simp only[f6] at e;unfold World.cell?;simp only;split at e
 ·rename_i c t2 N L;cases e;rw[L];simp [J,q]
 ·cases e
theorem acX{w:World}{laid:List (String×DataW Unit)}(h:laidMet Tryz.prog laid w){d:DataW Unit}(hm:("internal/strconv.uint64pow10",d)∈laid)(cS:d=.agg (p6.map fun n=>.lit (.int .u64 n))):km (fA w) Wd:=fun n=>by
 have fC:=Pt h hm cS;unfold Wd;cases dp:Nat.beq n 0 with
 |false=>exact⟨.dead _,rfl⟩
 |true=>
  have:=dk dp;subst this;simp only[b2];refine⟨.bI jn _ (fun j=>.int .u64 (p6.getD j 0)) rfl (fun j df=>?_) (fun j c a3=>?_),rfl⟩
  ·have uv:j<20:=df;have e:(⟨0,0,none⟩:Addr).add j=⟨0,j,none⟩:=by
    unfold Addr.add;split
    ·rename_i hC;subst hC;rfl
    ·simp
   rw[e];simp only[fA,if_true];exact fC j uv
  ·have df:=(ey.1 a3).1;have uv:j<20:=df;have q:j<p6.length:=df
   have:jn[j]? =some (.int .u64 (p6.getD j 0)):=by unfold jn;simp [List.getD,q]
   rw[this] at a3;cases a3;exact .int _ _
theorem mixed:Tryz.prog.follows .mixedOrders=true:=Tryz.checked.mixed
theorem adX:∃s',aL aK Wd abi 9 [] {own:=[],up:=[],ro:=[]}=.ok (.bool true) s':=by
 have h:=ac7;rw[aW.zR] at h;unfold acV at h;split at h
 ·rename_i b s' e;subst h;exact⟨s',ob aK Wd abi (fun h=>by cases h) e⟩
 ·cases h
end Go.gw
