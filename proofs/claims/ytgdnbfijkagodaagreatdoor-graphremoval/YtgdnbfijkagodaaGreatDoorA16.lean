/- A part of the proof: no condition. -/
import Derived.Test.YtgdnbfijkagodaaGreatDoorA4
import Derived.Test.YtgdnbfijkagodaaGreatDoorA3
import Derived.KernelRfl
import Derived.Test.YtgdnbfijkagodaaGreatDoorProg
import Derived.Test.YtgdnbfijkagodaaGreatDoorA15
import Derived.Test.YtgdnbfijkagodaaGreatDoorRows
import Derived.MakeChecks
import Derived.OpenShut
import Derived.Test.YtgdnbfijkagodaaGreatDoorCards
import Derived.Eval
set_option linter.unusedSectionVars false
set_option linter.unusedSimpArgs false
set_option linter.unusedVariables false
namespace Go.gF
open Go.Ab Go.Proofs
noncomputable def agb:lj:=agp Tryz.prog 69
theorem aiC:(match Tryz.f69.body with |some c=>dv (OJ Tryz.prog) 41 false ahY c|none=>false)=true:=by kernel_rfl
theorem a7{f:Nat}{c:c8}{fn:Func}{r:List (Nat×c8)}(ar:Tryz.prog.funcs[f]? =some fn)(bS:∀x∈r,∃fn,Tryz.prog.funcs[x.1]? =some fn∧wI agb x.2 fn=true)(aw:wI agb c fn=true:=by kernel_rfl):∀x∈(f,c)::r,∃fn,Tryz.prog.funcs[x.1]? =some fn∧wI agb x.2 fn=true:=List.forall_mem_cons.2 ⟨⟨fn,ar,aw⟩,bS⟩
theorem aa7:Co Tryz.prog 69 0:=by
 have h:=aiC;cases e:Tryz.f69.body with
 |none=>rw[e] at h;cases h
 |some c=>rw[e] at h;exact MY (sy Tryz.prog) Tryz.func69 e (by kernel_rfl) rfl rfl h
theorem ahO:agb.qv Tryz.prog:=by unfold agb;exact Uv _ _ aa7
set_option maxRecDepth 1000000
open Tryz in
theorem agc:F3 Tryz.prog agb aF:=fun f e h=>by
 have all:∀x∈aiF,∃fn,Tryz.prog.funcs[x.1]? =some fn∧wI agb x.2 fn=true:=
  a7 func4 (a7 func9 (a7 func10 (a7 func11 (a7 func12 (a7 func13 (a7 func14 (a7 func15 (a7 func16 (a7 func17 (a7 func18 (a7 func19 (a7 func21 (a7 func22 (a7 func23 (a7 func25 (a7 func26 (a7 func30 (a7 func33 (a7 func34 (a7 func35 (a7 func36 (a7 func37 (a7 func38 (a7 func39 (a7 func40 (a7 func41 (a7 func42 (a7 func43 (a7 func44 (a7 func45 (a7 func46 (a7 func47 (a7 func48 (a7 func49 (a7 func50 (a7 func62 (a7 func63 (a7 func67 (a7 func68 (a7 func69 (a7 func70 (a7 func71 (a7 func72 (a7 func73 (a7 func74 (a7 func75 (a7 func76 (a7 func77 (a7 func78 (a7 func84 (a7 func85 (a7 func86 (a7 func87 (a7 func88 (a7 func89 (a7 func90 (a7 func91 (a7 func92 (a7 func93 (a7 func94 (a7 func95 (a7 func96 (a7 func97 (a7 func98 (a7 func99 (a7 func102 (a7 func103 (a7 func104 (a7 func105 (a7 func106 (a7 func107 (a7 func108 (a7 func109 (a7 func110 (a7 func111 (a7 func112 (a7 func113 (a7 func114 (a7 func115 (a7 func116 (a7 func117 (a7 func118 (a7 func119 (a7 func120 (a7 func121 (a7 func122 (a7 func123 (a7 func124 (a7 func125 (a7 func127 (a7 func128 (a7 func129 (a7 func130 (a7 func131 (a7 func132 (a7 func133 (a7 func134 (a7 func135 (a7 func136 (a7 func137 (a7 func138 (a7 func139 (a7 func140 (a7 func141 (a7 func142 (a7 func143 (a7 func144 (a7 func145 (a7 func146 (a7 func147 (a7 func148 (a7 func149 (a7 func150 (a7 func151 (a7 func152 (a7 func153 (a7 func154 (a7 func155 (List.forall_mem_nil _)))))))))))))))))))))))))))))))))))))))))))))))))))))))))))))))))))))))))))))))))))))))))))))))))))))))))))))))))))))))
 exact all _ (ud h)
theorem aiD:abx Tryz.prog aF aa6 agf:=⟨(fun _ _ _ _ _ h=>by cases h),(fun _ _ _ _ _ _ _ _ _ h=>by cases h)⟩
theorem FG{w:World}{laid:List (String×DataW Unit)}(h:laidMet Tryz.prog laid w){d:DataW Unit}(hm:("internal/strconv.uint64pow10",d)∈laid):
  ∃cs fuel p,w.var? Tryz.prog "internal/strconv.uint64pow10" =some cs∧DataW.trod (fun _=>()) Tryz.prog w 0 (fun _=>true) false fuel 146 cs.toList=some (d,p):=by
 obtain⟨er,bX,a1⟩:=h;clear a1
 induction laid generalizing er with
 |nil=>cases hm
 |cons x r u=>
  obtain⟨n,e⟩:=x;simp only[DataW.LaidVars] at bX;obtain⟨g,t,cs,fuel,p,q,b2,eo,y,A,aV,_⟩:=bX;rcases List.mem_cons.1 hm with B|kI
  ·cases B;have dn:Tryz.prog.globalNamed "internal/strconv.uint64pow10" =some 0:=by kernel_rfl
   rw[dn] at b2;cases b2;have F:(Tryz.prog.globals[0]?).map (·.type)=some 146:=by kernel_rfl
   rw[F] at eo;cases eo;exact⟨cs,fuel,p,y,A⟩
  ·exact u kI q aV
theorem Uf{w:World}{laid:List (String×DataW Unit)}(h:laidMet Tryz.prog laid w){d:DataW Unit}(hm:("internal/strconv.uint64pow10",d)∈laid)(cW:d=.agg (q7.map fun n=>.lit (.int .u64 n))):
  ∀i,i<20→w.cell? ⟨0,i,none⟩=some (.int .u64 (q7.getD i 0)):=by
 obtain⟨cs,fuel,p,e,A⟩:=FG h hm;have hu:Tryz.prog.underlying 146=some (.array 20 120):=by kernel_rfl
 have B:Tryz.prog.underlying 120=some (.int .u64):=by kernel_rfl
 have a0:Tryz.prog.cellsOf 120=1:=by kernel_rfl
 obtain⟨xs,m,_,a1,bU,U,bZ⟩:=DataW.trod_array hu A;intro i u;have ar:=bZ i u;rw[a0,Nat.mul_one] at ar;have y:i<xs.length:=by omega
 rw[eb y] at ar;obtain⟨n,dn,F,_⟩:=DataW.trod_int B ar;have H:xs.map (·.1)=q7.map fun n=>DataW.lit (.int .u64 n):=by have:=congrArg Prod.fst a1;simp only at this;rw[cW] at this;exact(DataW.agg.inj this).symm
 have I:i<q7.length:=u;have r:(xs.map (·.1))[i]? =some (DataW.lit (.int .u64 (q7.getD i 0))):=by rw[H];simp [List.getD,I]
 rw[gb,eb y,F] at r;simp only[ep,bt,DataW.lit.injEq,Lit.int.injEq,true_and] at r;have J:cs.toList[i]? =some (.int .u64 n):=by have:=congrArg (fun l=>l[0]?) dn;simpa [List.getElem?_take,List.getElem?_drop] using this
 have M:cs[i]? =some (.int .u64 n):=by simpa using J
 simp only[World.var?] at e;have N:Tryz.prog.globalNamed "internal/strconv.uint64pow10" =some 0:=by kernel_rfl
 rw[N] at e;simp only[fp] at e;unfold World.cell?;simp only;split at e
 ·rename_i c t2 V O;cases e;rw[O];simp [M,r]
 ·cases e
theorem ahP{w:World}{laid:List (String×DataW Unit)}(h:laidMet Tryz.prog laid w){d:DataW Unit}(hm:("internal/strconv.uint64pow10",d)∈laid)(cW:d=.agg (q7.map fun n=>.lit (.int .u64 n))):kQ (fU w) aa6:=fun n=>by
 have fS:=Uf h hm cW;unfold aa6;cases cZ:Nat.beq n 0 with
 |false=>exact⟨.dead _,rfl⟩
 |true=>
  have:=dq cZ;subst this;simp only[bD];refine⟨.bk jO _ (fun j=>.int .u64 (q7.getD j 0)) rfl (fun j cL=>?_) (fun j c a0=>?_),rfl⟩
  ·have vX:j<20:=cL;have e:(⟨0,0,none⟩:Addr).add j=⟨0,j,none⟩:=by
    unfold Addr.add;split
    ·rename_i gA;subst gA;rfl
    ·simp
   rw[e];simp only[fU,if_true];exact fS j vX
  ·have cL:=(dy.1 a0).1;have vX:j<20:=cL;have r:j<q7.length:=cL
   have:jO[j]? =some (.int .u64 (q7.getD j 0)):=by unfold jO;simp [List.getD,r]
   rw[this] at a0;cases a0;exact .int _ _
theorem mixed:Tryz.prog.follows .mixedOrders=true:=Tryz.checked.mixed
theorem aiE:∃s',aB aF aa6 agf 9 [] {own:=[],up:=[],ro:=[]}=.ok (.bool true) s':=by
 have h:=ahZ;rw[a2.Cc] at h;unfold ahN at h;split at h
 ·rename_i b s' e;subst h;exact⟨s',o3 aF aa6 agf (fun h=>by cases h) e⟩
 ·cases h
end Go.gF
